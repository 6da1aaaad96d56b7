-- Printed by a program of ours (wip/print2).
import Derived.Test.YthmleoceakonjaaDoorEntMExt
import Derived.Test.YthmleoceakonjaaDoorPEntMx0
namespace Go.Proofs.YthmleoceakonjaaDoor.PEntM
open Go.RowKit Go.Proofs.YthmleoceakonjaaDoorW.PrintWords Go.Proofs.YthmleoceakonjaaDoorW.PrintLast Go.Proofs.YthmleoceakonjaaDoorW.PrintMore
attribute [local go_sem] max2_int min2_int max_two min_two max_three min_three max_four min_four   -- for this text's walks alone
set_option linter.unusedVariables false
set_option linter.unusedSimpArgs false

/-! ### pannierref09_text: function 17 -/
def pannierref09_text.f (a0 : ByteArray) (a1 : ByteArray) (a2 : ByteArray) : Option (ByteArray) := if a0.toList = ([] : List UInt8) then (if a1.toList = ([] : List UInt8) then (some a2) else (some a1)) else (some a0)
set_option maxHeartbeats 8000000 in
set_option maxRecDepth 100000 in
theorem pannierref09_text.calls (a0 : ByteArray) (a1 : ByteArray) (a2 : ByteArray) (r : ByteArray) (w : World) (h : pannierref09_text.f a0 a1 a2 = some r) :
    Calls Tryd.prog 17 #[.string a0, .string a1, .string a2] w fun e w' => e = .returned (.string r) ∧ Drawn0 w w' := by
  have H : (if a0.toList = ([] : List UInt8) then (if a1.toList = ([] : List UInt8) then (some a2) else (some a1)) else (some a0)) = some r := h
  clear h
  by_cases c4 : a0.toList = ([] : List UInt8)
  · rw [if_pos c4] at H
    have c4b0 : (a0.toList == ([] : List UInt8)) = true := beq_iff_eq.mpr c4
    have c4b1 : (a0.toList != ([] : List UInt8)) = false := bne_eq_false_iff_eq.mpr c4
    clear c4
    by_cases c5 : a1.toList = ([] : List UInt8)
    · rw [if_pos c5] at H
      have c5b0 : (a1.toList == ([] : List UInt8)) = true := beq_iff_eq.mpr c5
      have c5b1 : (a1.toList != ([] : List UInt8)) = false := bne_eq_false_iff_eq.mpr c5
      clear c5
      obtain rfl := Option.some.inj H
      go_enter Tryd.func17, Tryd.ntmps17
      go_wp2
      go_ret
      exact ⟨by first | rfl | (simp; done) | (simp [*]; done), by repeat (first | exact Drawn0.refl _ | apply Drawn0.step)⟩
    · rw [if_neg c5] at H
      have c5b0 : (a1.toList == ([] : List UInt8)) = false := beq_eq_false_iff_ne.mpr c5
      have c5b1 : (a1.toList != ([] : List UInt8)) = true := bne_iff_ne.mpr c5
      obtain rfl := Option.some.inj H
      go_enter Tryd.func17, Tryd.ntmps17
      go_wp2
      go_ret
      exact ⟨by first | rfl | (simp; done) | (simp [*]; done), by repeat (first | exact Drawn0.refl _ | apply Drawn0.step)⟩
  · rw [if_neg c4] at H
    have c4b0 : (a0.toList == ([] : List UInt8)) = false := beq_eq_false_iff_ne.mpr c4
    have c4b1 : (a0.toList != ([] : List UInt8)) = true := bne_iff_ne.mpr c4
    obtain rfl := Option.some.inj H
    go_enter Tryd.func17, Tryd.ntmps17
    go_wp2
    go_ret
    exact ⟨by first | rfl | (simp; done) | (simp [*]; done), by repeat (first | exact Drawn0.refl _ | apply Drawn0.step)⟩

/-! ### pannierref09_value: function 18 -/
mutual
def pannierref09_value.l0 : Nat → List (S62) → List (S62) → ByteArray → Bool → ByteArray → Int → Option (ByteArray)
  | 0, _, _, _, _, _, _ => none
  | k + 1, x0, x1, x2, x7, x8, x9 => if x9 < (x0.length : Int) then (if 0 ≤ x9 then (if ((rd_T62 x0 x9).f0).toList = x2.toList then (pannierref09_value.l0 k x0 x1 x2 true ((rd_T62 x0 x9).f1) (wrap64 (x9 + 1))) else (pannierref09_value.l0 k x0 x1 x2 x7 x8 (wrap64 (x9 + 1)))) else (none)) else (pannierref09_value.l1 k x1 x2 x7 x8 0)
def pannierref09_value.l1 : Nat → List (S62) → ByteArray → Bool → ByteArray → Int → Option (ByteArray)
  | 0, _, _, _, _, _ => none
  | k + 1, x1, x2, x7, x8, x10 => if x10 < (x1.length : Int) then (pannierref09_value.j2 k x1 x2 x7 x8 x10 (!x7)) else (pannierref09_value.j2 k x1 x2 x7 x8 x10 false)
def pannierref09_value.j2 : Nat → List (S62) → ByteArray → Bool → ByteArray → Int → Bool → Option (ByteArray)
  | 0, _, _, _, _, _, _ => none
  | k + 1, x1, x2, x7, x8, x10, x36 => if x36 = true then (if 0 ≤ x10 then (if x10 < (x1.length : Int) then (if ((rd_T62 x1 x10).f0).toList = x2.toList then (pannierref09_value.l1 k x1 x2 x7 ((rd_T62 x1 x10).f1) (wrap64 (x10 + 1))) else (pannierref09_value.l1 k x1 x2 x7 x8 (wrap64 (x10 + 1)))) else (none)) else (none)) else (some x8)
end
def pannierref09_value.f (k : Nat) (l0 : List (S62)) (l1 : List (S62)) (a2 : ByteArray) : Option (ByteArray) := pannierref09_value.l0 k l0 l1 a2 false (⟨#[]⟩ : ByteArray) 0
theorem pannierref09_value.mono_l : ∀ k, (∀ y0 y1 y2 y3 y4 y5, LeO (pannierref09_value.l0 k y0 y1 y2 y3 y4 y5) (pannierref09_value.l0 (k + 1) y0 y1 y2 y3 y4 y5)) ∧ (∀ y0 y1 y2 y3 y4, LeO (pannierref09_value.l1 k y0 y1 y2 y3 y4) (pannierref09_value.l1 (k + 1) y0 y1 y2 y3 y4)) ∧ (∀ y0 y1 y2 y3 y4 y5, LeO (pannierref09_value.j2 k y0 y1 y2 y3 y4 y5) (pannierref09_value.j2 (k + 1) y0 y1 y2 y3 y4 y5))
  | 0 => ⟨fun _ _ _ _ _ _ r h => by simp [pannierref09_value.l0] at h, fun _ _ _ _ _ r h => by simp [pannierref09_value.l1] at h, fun _ _ _ _ _ _ r h => by simp [pannierref09_value.j2] at h⟩
  | k + 1 => by
    obtain ⟨ih0, ih1, ih2⟩ := pannierref09_value.mono_l k
    refine ⟨?_, ?_, ?_⟩
    · intro y0 y1 y2 y3 y4 y5
      unfold pannierref09_value.l0
      repeat' first
      | (with_reducible exact ih0 _ _ _ _ _ _)
      | (with_reducible exact ih1 _ _ _ _ _)
      | (with_reducible exact ih2 _ _ _ _ _ _)
      | (with_reducible exact LeO.refl _)
      | (with_reducible exact LeO.none _)
      | (with_reducible refine LeO.ite ?_ ?_)
      | (with_reducible refine LeO.bind ?_ (fun _ => ?_))
      | exact ih0 _ _ _ _ _ _
      | exact ih1 _ _ _ _ _
      | exact ih2 _ _ _ _ _ _
      | exact LeO.none _
      | refine LeO.ite ?_ ?_
      | refine LeO.bind ?_ (fun _ => ?_)
    · intro y0 y1 y2 y3 y4
      unfold pannierref09_value.l1
      repeat' first
      | (with_reducible exact ih0 _ _ _ _ _ _)
      | (with_reducible exact ih1 _ _ _ _ _)
      | (with_reducible exact ih2 _ _ _ _ _ _)
      | (with_reducible exact LeO.refl _)
      | (with_reducible exact LeO.none _)
      | (with_reducible refine LeO.ite ?_ ?_)
      | (with_reducible refine LeO.bind ?_ (fun _ => ?_))
      | exact ih0 _ _ _ _ _ _
      | exact ih1 _ _ _ _ _
      | exact ih2 _ _ _ _ _ _
      | exact LeO.none _
      | refine LeO.ite ?_ ?_
      | refine LeO.bind ?_ (fun _ => ?_)
    · intro y0 y1 y2 y3 y4 y5
      unfold pannierref09_value.j2
      repeat' first
      | (with_reducible exact ih0 _ _ _ _ _ _)
      | (with_reducible exact ih1 _ _ _ _ _)
      | (with_reducible exact ih2 _ _ _ _ _ _)
      | (with_reducible exact LeO.refl _)
      | (with_reducible exact LeO.none _)
      | (with_reducible refine LeO.ite ?_ ?_)
      | (with_reducible refine LeO.bind ?_ (fun _ => ?_))
      | exact ih0 _ _ _ _ _ _
      | exact ih1 _ _ _ _ _
      | exact ih2 _ _ _ _ _ _
      | exact LeO.none _
      | refine LeO.ite ?_ ?_
      | refine LeO.bind ?_ (fun _ => ?_)
theorem pannierref09_value.mono : ∀ a0 a1 a2 k, LeO (pannierref09_value.f k a0 a1 a2) (pannierref09_value.f (k + 1) a0 a1 a2) := by
  intro a0 a1 a2 k
  obtain ⟨ih0, ih1, ih2⟩ := pannierref09_value.mono_l k
  unfold pannierref09_value.f
  repeat' first
      | (with_reducible exact ih0 _ _ _ _ _ _)
      | (with_reducible exact ih1 _ _ _ _ _)
      | (with_reducible exact ih2 _ _ _ _ _ _)
      | (with_reducible exact LeO.refl _)
      | (with_reducible exact LeO.none _)
      | (with_reducible refine LeO.ite ?_ ?_)
      | (with_reducible refine LeO.bind ?_ (fun _ => ?_))
      | exact ih0 _ _ _ _ _ _
      | exact ih1 _ _ _ _ _
      | exact ih2 _ _ _ _ _ _
      | exact LeO.none _
      | refine LeO.ite ?_ ?_
      | refine LeO.bind ?_ (fun _ => ?_)
set_option maxHeartbeats 8000000 in
set_option maxRecDepth 100000 in
theorem pannierref09_value.calls (k : Nat) (A0 : Option Addr) (c0 : Nat) (l0 : List (S62)) (A1 : Option Addr) (c1 : Nat) (l1 : List (S62)) (a2 : ByteArray) (r : ByteArray) (w : World) (hr0 : Kd.C k62 w A0 l0.length l0) (hc0 : l0.length ≤ c0) (hr1 : Kd.C k62 w A1 l1.length l1) (hc1 : l1.length ≤ c1) (h : pannierref09_value.f k l0 l1 a2 = some r) :
    Calls Tryd.prog 18 #[.slice A0 l0.length c0, .slice A1 l1.length c1, .string a2] w fun e w' => e = .returned (.string r) ∧ Drawn0 w w' := by
  have HR0 := Aside0.mk hr0
  have HC0 := Aside0.mk hc0
  clear hr0 hc0
  have HR1 := Aside0.mk hr1
  have HC1 := Aside0.mk hc1
  clear hr1 hc1
  have H : (pannierref09_value.l0 k l0 l1 a2 false (⟨#[]⟩ : ByteArray) 0) = some r := h
  clear h
  have H' := Aside0.mk H
  clear H
  go_enter Tryd.func18, Tryd.ntmps18
  go_wp2
  go_loopg [7, 8, 9] k (fun kq v7 v8 v9 w' => ∃ (x7_1 : Bool) (x8_1 : ByteArray) (x9_1 : Int), v7 = .bool x7_1 ∧ v8 = .string x8_1 ∧ v9 = .int .i64 x9_1 ∧ Aside0 (pannierref09_value.l0 kq l0 l1 a2 x7_1 x8_1 x9_1 = some r) ∧ Aside0 (kq ≤ k) ∧ Drawn0 w w')
  case atStart => exact ⟨(false), ((⟨#[]⟩ : ByteArray)), (0), (by first | rfl | (simp; done) | (simp; exact (fun l_ : List UInt8 => (by cases l_ <;> rfl : l_.isEmpty = !(l_ != []))) _) | (simp [*]; done)), (by first | rfl | (simp; done) | (simp; exact (fun l_ : List UInt8 => (by cases l_ <;> rfl : l_.isEmpty = !(l_ != []))) _) | (simp [*]; done)), (by first | rfl | (simp; done) | (simp; exact (fun l_ : List UInt8 => (by cases l_ <;> rfl : l_.isEmpty = !(l_ != []))) _) | (simp [*]; done)), H', ⟨Nat.le_refl _⟩, by repeat (first | exact Drawn0.refl _ | apply Drawn0.step)⟩
  case round =>
    clear H'
    try clear c1
    try clear p2
    obtain ⟨x7_1, x8_1, x9_1, rfl, rfl, rfl, HA, HK1, ⟨m1, rfl⟩⟩ := hrel
    cases gk with
    | zero => exact absurd HA.out (by simp [pannierref09_value.l0])
    | succ k1 =>
      have H := HA.out
      clear HA
      simp only [pannierref09_value.l0] at H
      by_cases c4 : x9_1 < (l0.length : Int)
      · rw [if_pos c4] at H
        have c4b0 : decide (x9_1 < (l0.length : Int)) = true := decide_eq_true c4
        clear c4
        by_cases c5 : 0 ≤ x9_1
        · rw [if_pos c5] at H
          have c5b0 : decide (0 ≤ x9_1) = true := decide_eq_true c5
          clear c5
          by_cases c6 : ((rd_T62 l0 x9_1).f0).toList = a2.toList
          · rw [if_pos c6] at H
            have c6b0 : (((rd_T62 l0 x9_1).f0).toList == a2.toList) = true := beq_iff_eq.mpr c6
            have c6b1 : (((rd_T62 l0 x9_1).f0).toList != a2.toList) = false := bne_eq_false_iff_eq.mpr c6
            clear c6
            have H' := Aside0.mk H
            clear H
            have p101 : 0 ≤ (x9_1 : Int) := of_decide_eq_true (by first | (with_reducible assumption) | assumption)
            have q101 : x9_1 < (l0.length : Int) := of_decide_eq_true (by first | (with_reducible assumption) | assumption)
            obtain ⟨ad101, e101, hx101_0, hx101_1⟩ := at_T62 HR0.out x9_1 p101 q101
            cases e101
            replace p101 := eq_true p101
            replace q101 := eq_true q101
            have p102 : 0 ≤ (x9_1 : Int) := of_decide_eq_true (by first | (with_reducible assumption) | assumption)
            have q102 : x9_1 < (l0.length : Int) := of_decide_eq_true (by first | (with_reducible assumption) | assumption)
            obtain ⟨ad102, e102, hx102_0, hx102_1⟩ := at_T62 HR0.out x9_1 p102 q102
            obtain rfl : ad101 = ad102 := (by injection e102)
            replace p102 := eq_true p102
            replace q102 := eq_true q102
            go_wp2
            go_roundg k1
            case measure => have := HK1.out; omega
            case rel => exact ⟨(true), ((rd_T62 l0 x9_1).f1), (wrap64 (x9_1 + 1)), (by first | rfl | (simp; done) | (simp; exact (fun l_ : List UInt8 => (by cases l_ <;> rfl : l_.isEmpty = !(l_ != []))) _) | (simp [*]; done)), (by first | rfl | (simp; done) | (simp; exact (fun l_ : List UInt8 => (by cases l_ <;> rfl : l_.isEmpty = !(l_ != []))) _) | (simp [*]; done)), (by first | rfl | (simp; done) | (simp; exact (fun l_ : List UInt8 => (by cases l_ <;> rfl : l_.isEmpty = !(l_ != []))) _) | (simp [*]; done)), H', ⟨by have := HK1.out; omega⟩, by repeat (first | exact Drawn0.refl _ | apply Drawn0.step)⟩
          · rw [if_neg c6] at H
            have c6b0 : (((rd_T62 l0 x9_1).f0).toList == a2.toList) = false := beq_eq_false_iff_ne.mpr c6
            have c6b1 : (((rd_T62 l0 x9_1).f0).toList != a2.toList) = true := bne_iff_ne.mpr c6
            have H' := Aside0.mk H
            clear H
            have p101 : 0 ≤ (x9_1 : Int) := of_decide_eq_true (by first | (with_reducible assumption) | assumption)
            have q101 : x9_1 < (l0.length : Int) := of_decide_eq_true (by first | (with_reducible assumption) | assumption)
            obtain ⟨ad101, e101, hx101_0, hx101_1⟩ := at_T62 HR0.out x9_1 p101 q101
            cases e101
            replace p101 := eq_true p101
            replace q101 := eq_true q101
            go_wp2
            go_roundg k1
            case measure => have := HK1.out; omega
            case rel => exact ⟨(x7_1), (x8_1), (wrap64 (x9_1 + 1)), (by first | rfl | (simp; done) | (simp; exact (fun l_ : List UInt8 => (by cases l_ <;> rfl : l_.isEmpty = !(l_ != []))) _) | (simp [*]; done)), (by first | rfl | (simp; done) | (simp; exact (fun l_ : List UInt8 => (by cases l_ <;> rfl : l_.isEmpty = !(l_ != []))) _) | (simp [*]; done)), (by first | rfl | (simp; done) | (simp; exact (fun l_ : List UInt8 => (by cases l_ <;> rfl : l_.isEmpty = !(l_ != []))) _) | (simp [*]; done)), H', ⟨by have := HK1.out; omega⟩, by repeat (first | exact Drawn0.refl _ | apply Drawn0.step)⟩
        · rw [if_neg c5] at H
          exact absurd H (by simp)
      · rw [if_neg c4] at H
        have c4b0 : decide (x9_1 < (l0.length : Int)) = false := decide_eq_false c4
        clear c4
        have H' := Aside0.mk H
        clear H
        go_wp2
        go_loopg [8, 10] k1 (fun kq v8 v10 w' => ∃ (x8_2 : ByteArray) (x10_2 : Int), v8 = .string x8_2 ∧ v10 = .int .i64 x10_2 ∧ Aside0 (pannierref09_value.l1 kq l1 a2 x7_1 x8_2 x10_2 = some r) ∧ Aside0 (kq ≤ k1) ∧ Drawn0 w w')
        case atStart => exact ⟨(x8_1), (0), (by first | rfl | (simp; done) | (simp; exact (fun l_ : List UInt8 => (by cases l_ <;> rfl : l_.isEmpty = !(l_ != []))) _) | (simp [*]; done)), (by first | rfl | (simp; done) | (simp; exact (fun l_ : List UInt8 => (by cases l_ <;> rfl : l_.isEmpty = !(l_ != []))) _) | (simp [*]; done)), H', ⟨Nat.le_refl _⟩, by repeat (first | exact Drawn0.refl _ | apply Drawn0.step)⟩
        case round =>
          clear H'
          try clear c1
          try clear p1
          try clear q1
          try clear hx1
          try clear p2
          try clear c4
          try clear c4b0
          try clear c5
          try clear c5b0
          try clear c6
          try clear c6b0
          try clear c6b1
          try clear p6
          try clear hx101_0
          try clear hx101_1
          try clear hx102_0
          try clear hx102_1
          try clear p101
          try clear p102
          try clear p2
          try clear q101
          try clear q102
          obtain ⟨x8_2, x10_2, rfl, rfl, HA, HK2, ⟨m2, rfl⟩⟩ := hrel
          cases gk with
          | zero => exact absurd HA.out (by simp [pannierref09_value.l1])
          | succ k2 =>
            have H := HA.out
            clear HA
            simp only [pannierref09_value.l1] at H
            have HC7 := Aside0.mk H
            clear H
            go_upto_region 10 with (fail)
            go_cut [36] (fun v36 wc => ∃ (kq : Nat) (x36_6 : Bool), v36 = .bool x36_6 ∧ Aside0 (pannierref09_value.j2 kq l1 a2 x7_1 x8_2 x10_2 x36_6 = some r) ∧ Aside0 (kq ≤ k2) ∧ Drawn0 w wc)
            case first =>
              have H := HC7.out
              clear HC7
              by_cases c8 : x10_2 < (l1.length : Int)
              · rw [if_pos c8] at H
                have c8b0 : decide (x10_2 < (l1.length : Int)) = true := decide_eq_true c8
                clear c8
                (first | rw [c8b0] | (simp only [i64_w, i32_w]; rw [c8b0]) | skip)
                have H' := Aside0.mk H
                clear H
                go_wp2
                go_meet
                case rel => exact ⟨_, (!x7_1), (by first | rfl | (simp; done) | (simp; exact (fun l_ : List UInt8 => (by cases l_ <;> rfl : l_.isEmpty = !(l_ != []))) _) | (simp [*]; done)), H', ⟨by have := HK1.out; have := HK2.out; first | omega | exact Nat.le_refl _⟩, by repeat (first | exact Drawn0.refl _ | apply Drawn0.step)⟩
              · rw [if_neg c8] at H
                have c8b0 : decide (x10_2 < (l1.length : Int)) = false := decide_eq_false c8
                clear c8
                (first | rw [c8b0] | (simp only [i64_w, i32_w]; rw [c8b0]) | skip)
                have H' := Aside0.mk H
                clear H
                go_wp2
                go_meet
                case rel => exact ⟨_, (false), (by first | rfl | (simp; done) | (simp; exact (fun l_ : List UInt8 => (by cases l_ <;> rfl : l_.isEmpty = !(l_ != []))) _) | (simp [*]; done)), H', ⟨by have := HK1.out; have := HK2.out; first | omega | exact Nat.le_refl _⟩, by repeat (first | exact Drawn0.refl _ | apply Drawn0.step)⟩
            case rest =>
              clear HC7
              try clear c1
              try clear p1
              try clear q1
              try clear hx1
              try clear p2
              try clear c4
              try clear c4b0
              try clear c5
              try clear c5b0
              try clear c6
              try clear c6b0
              try clear c6b1
              try clear p6
              try clear c8
              try clear c8b0
              try clear hx101_0
              try clear hx101_1
              try clear hx102_0
              try clear hx102_1
              try clear p1
              try clear p101
              try clear p102
              try clear p2
              try clear p6
              try clear q1
              try clear q101
              try clear q102
              obtain ⟨kq, x36_6, rfl, HA, HJ6, ⟨mc6, rfl⟩⟩ := hcut
              cases kq with
              | zero => exact absurd HA.out (by simp [pannierref09_value.j2])
              | succ kj6 =>
                have H := HA.out
                clear HA
                simp only [pannierref09_value.j2] at H
                by_cases c9 : x36_6 = true
                · subst c9
                  have H1 : (if 0 ≤ x10_2 then (if x10_2 < (l1.length : Int) then (if ((rd_T62 l1 x10_2).f0).toList = a2.toList then (pannierref09_value.l1 kj6 l1 a2 x7_1 ((rd_T62 l1 x10_2).f1) (wrap64 (x10_2 + 1))) else (pannierref09_value.l1 kj6 l1 a2 x7_1 x8_2 (wrap64 (x10_2 + 1)))) else (none)) else (none)) = some r := by rw [if_pos rfl] at H; exact H
                  clear H
                  have H := H1
                  clear H1
                  by_cases c10 : 0 ≤ x10_2
                  · rw [if_pos c10] at H
                    have c10b0 : decide (0 ≤ x10_2) = true := decide_eq_true c10
                    clear c10
                    by_cases c11 : x10_2 < (l1.length : Int)
                    · rw [if_pos c11] at H
                      have c11b0 : decide (x10_2 < (l1.length : Int)) = true := decide_eq_true c11
                      clear c11
                      by_cases c12 : ((rd_T62 l1 x10_2).f0).toList = a2.toList
                      · rw [if_pos c12] at H
                        have c12b0 : (((rd_T62 l1 x10_2).f0).toList == a2.toList) = true := beq_iff_eq.mpr c12
                        have c12b1 : (((rd_T62 l1 x10_2).f0).toList != a2.toList) = false := bne_eq_false_iff_eq.mpr c12
                        clear c12
                        have H' := Aside0.mk H
                        clear H
                        have p103 : 0 ≤ (x10_2 : Int) := of_decide_eq_true (by first | (with_reducible assumption) | assumption)
                        have q103 : x10_2 < (l1.length : Int) := of_decide_eq_true (by first | (with_reducible assumption) | assumption)
                        obtain ⟨ad103, e103, hx103_0, hx103_1⟩ := at_T62 HR1.out x10_2 p103 q103
                        cases e103
                        replace p103 := eq_true p103
                        replace q103 := eq_true q103
                        have p104 : 0 ≤ (x10_2 : Int) := of_decide_eq_true (by first | (with_reducible assumption) | assumption)
                        have q104 : x10_2 < (l1.length : Int) := of_decide_eq_true (by first | (with_reducible assumption) | assumption)
                        obtain ⟨ad104, e104, hx104_0, hx104_1⟩ := at_T62 HR1.out x10_2 p104 q104
                        obtain rfl : ad103 = ad104 := (by injection e104)
                        replace p104 := eq_true p104
                        replace q104 := eq_true q104
                        go_wp2
                        go_roundg kj6
                        case measure => have := HK1.out; have := HK2.out; have := HJ6.out; omega
                        case rel => exact ⟨((rd_T62 l1 x10_2).f1), (wrap64 (x10_2 + 1)), (by first | rfl | (simp; done) | (simp; exact (fun l_ : List UInt8 => (by cases l_ <;> rfl : l_.isEmpty = !(l_ != []))) _) | (simp [*]; done)), (by first | rfl | (simp; done) | (simp; exact (fun l_ : List UInt8 => (by cases l_ <;> rfl : l_.isEmpty = !(l_ != []))) _) | (simp [*]; done)), H', ⟨by have := HK1.out; have := HK2.out; have := HJ6.out; omega⟩, by repeat (first | exact Drawn0.refl _ | apply Drawn0.step)⟩
                      · rw [if_neg c12] at H
                        have c12b0 : (((rd_T62 l1 x10_2).f0).toList == a2.toList) = false := beq_eq_false_iff_ne.mpr c12
                        have c12b1 : (((rd_T62 l1 x10_2).f0).toList != a2.toList) = true := bne_iff_ne.mpr c12
                        have H' := Aside0.mk H
                        clear H
                        have p103 : 0 ≤ (x10_2 : Int) := of_decide_eq_true (by first | (with_reducible assumption) | assumption)
                        have q103 : x10_2 < (l1.length : Int) := of_decide_eq_true (by first | (with_reducible assumption) | assumption)
                        obtain ⟨ad103, e103, hx103_0, hx103_1⟩ := at_T62 HR1.out x10_2 p103 q103
                        cases e103
                        replace p103 := eq_true p103
                        replace q103 := eq_true q103
                        go_wp2
                        go_roundg kj6
                        case measure => have := HK1.out; have := HK2.out; have := HJ6.out; omega
                        case rel => exact ⟨(x8_2), (wrap64 (x10_2 + 1)), (by first | rfl | (simp; done) | (simp; exact (fun l_ : List UInt8 => (by cases l_ <;> rfl : l_.isEmpty = !(l_ != []))) _) | (simp [*]; done)), (by first | rfl | (simp; done) | (simp; exact (fun l_ : List UInt8 => (by cases l_ <;> rfl : l_.isEmpty = !(l_ != []))) _) | (simp [*]; done)), H', ⟨by have := HK1.out; have := HK2.out; have := HJ6.out; omega⟩, by repeat (first | exact Drawn0.refl _ | apply Drawn0.step)⟩
                    · rw [if_neg c11] at H
                      exact absurd H (by simp)
                  · rw [if_neg c10] at H
                    exact absurd H (by simp)
                · replace c9 := Bool.eq_false_iff.mpr c9
                  subst c9
                  have H1 : (some x8_2) = some r := by rw [if_neg (show ¬ (false = true) by decide)] at H; exact H
                  clear H
                  have H := H1
                  clear H1
                  obtain rfl := Option.some.inj H
                  go_wp2
                  go_ret
                  exact ⟨by first | rfl | (simp; done) | (simp [*]; done), by repeat (first | exact Drawn0.refl _ | apply Drawn0.step)⟩

/-! ### pannierref09_number: function 19 -/
def pannierref09_number.f (a0 : ByteArray) (a1 : Int) : Option (Int × Bool) := if a0.toList = ([] : List UInt8) then (some (a1, true)) else ((pannierref07_Number.f a0).bind fun bt105 => (some (bt105.1, bt105.2)))
set_option maxHeartbeats 8000000 in
set_option maxRecDepth 100000 in
theorem pannierref09_number.calls (a0 : ByteArray) (a1 : Int) (r1 : Int) (r2 : Bool) (w : World) (h : pannierref09_number.f a0 a1 = some (r1, r2)) :
    Calls Tryd.prog 19 #[.string a0, .int .i64 a1] w fun e w' => e = .returned (.tuple #[.int .i64 r1, .bool r2]) ∧ Below w.heap.size w w' := by
  have HB := Aside0.mk (Below.refl w.heap.size w)
  have H : (if a0.toList = ([] : List UInt8) then (some (a1, true)) else ((pannierref07_Number.f a0).bind fun bt105 => (some (bt105.1, bt105.2)))) = some (r1, r2) := h
  clear h
  by_cases c3 : a0.toList = ([] : List UInt8)
  · rw [if_pos c3] at H
    have c3b0 : (a0.toList == ([] : List UInt8)) = true := beq_iff_eq.mpr c3
    have c3b1 : (a0.toList != ([] : List UInt8)) = false := bne_eq_false_iff_eq.mpr c3
    clear c3
    simp only [Option.some.injEq, Prod.mk.injEq] at H
    obtain ⟨rfl, rfl⟩ := H
    go_enter Tryd.func19, Tryd.ntmps19
    go_wp2
    go_ret2
    exact ⟨by first | rfl | (simp [errW_none, errW_some] <;> rfl) | (simp [*, errW_none, errW_some] <;> rfl), by repeat (first | (with_reducible first | exact HB.out | apply below_alloc | apply pw_below_drewN | apply below_drew1) | exact HB.out)⟩
  · rw [if_neg c3] at H
    have c3b0 : (a0.toList == ([] : List UInt8)) = false := beq_eq_false_iff_ne.mpr c3
    have c3b1 : (a0.toList != ([] : List UInt8)) = true := bne_iff_ne.mpr c3
    replace H := Option.bind_eq_some_iff.mp H
    obtain ⟨⟨t105, t106⟩, A40, H⟩ := H
    replace H : (some (t105, t106)) = some (r1, r2) := H
    have A4 := Aside0.mk A40
    clear A40
    simp only [Option.some.injEq, Prod.mk.injEq] at H
    obtain ⟨rfl, rfl⟩ := H
    go_enter Tryd.func19, Tryd.ntmps19
    go_wp2_with (first | ((with_reducible refine gate_callee (f := 23) rfl ?_); refine goesL_ (some 10) rfl rfl Tryd.func23 (by kernel_rfl) rfl #[.string a0] rfl (by (try simp only [List.map_toArray, List.map_cons, List.map_nil]); first | done | rfl | (simp only [List.length_drop, List.length_take]; rfl)) ?_; (with_reducible refine (pannierref07_Number.calls a0 t105 t106 _ A4.out).mono ?_); rintro e w5 ⟨rfl, hb⟩; refine ⟨_, rfl, ?_⟩; have n0_ := Aside0.mk (below_step (by repeat (first | (with_reducible first | exact HB.out | apply below_alloc | apply pw_below_drewN | apply below_drew1) | exact HB.out)) hb); clear HB; have HB := n0_; clear n0_; (try clear hb); (try clear hb2); (try clear hk); (try clear hi)))
    go_ret2
    exact ⟨by first | rfl | (simp [errW_none, errW_some] <;> rfl) | (simp [*, errW_none, errW_some] <;> rfl), by repeat (first | (with_reducible first | exact HB.out | apply below_alloc | apply pw_below_drewN | apply below_drew1) | exact HB.out)⟩

end Go.Proofs.YthmleoceakonjaaDoor.PEntM
