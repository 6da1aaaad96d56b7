/-
  Several texts in one: YtpbpfngichfgeaaGreatDoorPOctx0, YtpbpfngichfgeaaGreatDoorOctExt, YtpbpfngichfgeaaGreatDoorPOctx1, YtpbpfngichfgeaaGreatDoorOctN.
-/
import Derived.Test.YtpbpfngichfgeaaGreatDoorProg
import Derived.Below
import Derived.Deep.Draws
import Derived.Deep.AppendLies
import Derived.Maps.AppendAt
import Derived.OwnWalk
import Derived.Laws.BytesArg
import Derived.Laws.MakeOwn
import Derived.Laws.OwnMore
import Derived.Deep.OwnRows
import Derived.Tactics
import Derived.Lib.ConvBytes
import Derived.Laws.Slices
import Derived.WalkKit
import Derived.KernelRfl
import Derived.RowKit3
import Derived.Deep.LoopGhost
import Derived.Deep.QuietTactic
import Derived.BigQuiet
import Derived.WideLaws
import Derived.Deep.DeepCutAuto
import Derived.Deep.CutBlock
import Derived.Deep.RegionHeld3
import Derived.Laws.Rows
import Derived.Lib.AppendStr
import Derived.ArgAppend
import Derived.Laws.IdiomCopy
import Derived.OrdersHeld
import Derived.Laws.BitsLemmas
import Derived.RowKit
import Derived.Test.YtpbpfngichfgeaaGreatDoorWords
import Derived.Test.YtpbpfngichfgeaaGreatDoorEnv
namespace Go.Proofs.YtpbpfngichfgeaaGreatDoor.POct
open Go.RowKit Go.Proofs.YtpbpfngichfgeaaGreatDoorW.PrintWords Go.Proofs.YtpbpfngichfgeaaGreatDoorW.PrintLast Go.Proofs.YtpbpfngichfgeaaGreatDoorW.PrintMore
attribute [local go_sem] max2_int min2_int max_two min_two max_three min_three max_four min_four   -- for this text's walks alone
set_option linter.unusedVariables false
set_option linter.unusedSimpArgs false



def errW : Option Int → Value
  | none => .nilIface
  | some c => .iface 0 (.int .i64 c)
theorem errW_none : errW none = .nilIface := rfl
theorem errW_some (c : Int) : errW (some c) = .iface 0 (.int .i64 c) := rfl

theorem info5 : (Tryz.prog.info? 5).map (fun i => (i.zero, i.size, i.bytes)) = some (some (.int .u8 0), 1, 1) := by kernel_rfl
-- the values' own types

end Go.Proofs.YtpbpfngichfgeaaGreatDoor.POct

namespace Go.Proofs.YtpbpfngichfgeaaGreatDoor
/-- Is there a byte 0 in a text? -/
def has0 (s : ByteArray) : Bool := decide (0 ≤ Lib.indexByte s.data.toList 0)
end Go.Proofs.YtpbpfngichfgeaaGreatDoor
namespace Go.Proofs.YtpbpfngichfgeaaGreatDoor.POct
set_option linter.unusedVariables false
open Go.RowKit Go.Proofs.YtpbpfngichfgeaaGreatDoor

def strings_Contains.f (a0 a1 : ByteArray) : Option Bool := if a1 = ⟨#[0]⟩ then some (has0 a0) else none
theorem strings_Contains.calls (a0 a1 : ByteArray) (r : Bool) (w : World) (h : strings_Contains.f a0 a1 = some r) :
    Calls Tryz.prog 58 #[.string a0, .string a1] w fun e w' => e = .returned (.bool r) ∧ Below w.heap.size w w' := by
  unfold strings_Contains.f at h
  split at h
  · rename_i he
    subst he
    have h2 := Option.some.inj h
    subst h2
    exact (Tryz.strings_Contains_one a0 0 w).mono fun e w' ⟨a, b⟩ => ⟨a, by subst b; exact Below.refl _ _⟩
  · cases h
end Go.Proofs.YtpbpfngichfgeaaGreatDoor.POct

namespace Go.Proofs.YtpbpfngichfgeaaGreatDoor.POct
open Go.RowKit Go.Proofs.YtpbpfngichfgeaaGreatDoorW.PrintWords Go.Proofs.YtpbpfngichfgeaaGreatDoorW.PrintLast Go.Proofs.YtpbpfngichfgeaaGreatDoorW.PrintMore
attribute [local go_sem] max2_int min2_int max_two min_two max_three min_three max_four min_four   -- for this text's walks alone
set_option linter.unusedVariables false
set_option linter.unusedSimpArgs false

/-! ### octal_digits: function 88 -/
def octal_digits.l0 : Nat → Int → Int → Option (Int)
  | 0, _, _ => none
  | k + 1, x0, x3 => if x0 ≥ 8 then (octal_digits.l0 k (wrap64 (Int.tdiv x0 8)) (wrap64 (x3 + 1))) else (some x3)
def octal_digits.f (k : Nat) (a0 : Int) : Option (Int) := octal_digits.l0 k a0 1
theorem octal_digits.mono_l : ∀ k, (∀ y0 y1, LeO (octal_digits.l0 k y0 y1) (octal_digits.l0 (k + 1) y0 y1))
  | 0 => fun _ _ r h => by simp [octal_digits.l0] at h
  | k + 1 => by
    have ih0 := octal_digits.mono_l k
    · intro y0 y1
      unfold octal_digits.l0
      repeat' first
      | (with_reducible exact ih0 _ _)
      | (with_reducible exact LeO.refl _)
      | (with_reducible exact LeO.none _)
      | (with_reducible refine LeO.ite ?_ ?_)
      | (with_reducible refine LeO.bind ?_ (fun _ => ?_))
      | exact ih0 _ _
      | exact LeO.none _
      | refine LeO.ite ?_ ?_
      | refine LeO.bind ?_ (fun _ => ?_)
theorem octal_digits.mono : ∀ a0 k, LeO (octal_digits.f k a0) (octal_digits.f (k + 1) a0) := by
  intro a0 k
  have ih0 := octal_digits.mono_l k
  unfold octal_digits.f
  repeat' first
      | (with_reducible exact ih0 _ _)
      | (with_reducible exact LeO.refl _)
      | (with_reducible exact LeO.none _)
      | (with_reducible refine LeO.ite ?_ ?_)
      | (with_reducible refine LeO.bind ?_ (fun _ => ?_))
      | exact ih0 _ _
      | exact LeO.none _
      | refine LeO.ite ?_ ?_
      | refine LeO.bind ?_ (fun _ => ?_)
set_option maxHeartbeats 8000000 in
set_option maxRecDepth 100000 in
theorem octal_digits.calls (k : Nat) (a0 : Int) (r : Int) (w : World) (h : octal_digits.f k a0 = some r) :
    Calls Tryz.prog 88 #[.int .i64 a0] w fun e w' => e = .returned (.int .i64 r) ∧ Drawn0 w w' := by
  have H : (octal_digits.l0 k a0 1) = some r := h
  clear h
  have H' := Aside0.mk H
  clear H
  go_enter Tryz.func88, Tryz.ntmps88
  go_wp2
  go_loopg [0, 3] k (fun kq v0 v3 w' => ∃ (x0_1 : Int) (x3_1 : Int), v0 = .int .i64 x0_1 ∧ v3 = .int .i64 x3_1 ∧ Aside0 (octal_digits.l0 kq x0_1 x3_1 = some r) ∧ Aside0 (kq ≤ k) ∧ Drawn0 w w')
  case atStart => exact ⟨(a0), (1), (by first | rfl | (simp; done) | (simp; exact (fun l_ : List UInt8 => (by cases l_ <;> rfl : l_.isEmpty = !(l_ != []))) _) | (simp; exact (fun (x_ : Bool) (l_ : List UInt8) => (by cases x_ <;> cases l_ <;> rfl : (x_ == !l_.isEmpty) = !(x_ != (l_ != [])))) _ _) | (simp [*]; done)), (by first | rfl | (simp; done) | (simp; exact (fun l_ : List UInt8 => (by cases l_ <;> rfl : l_.isEmpty = !(l_ != []))) _) | (simp; exact (fun (x_ : Bool) (l_ : List UInt8) => (by cases x_ <;> cases l_ <;> rfl : (x_ == !l_.isEmpty) = !(x_ != (l_ != [])))) _ _) | (simp [*]; done)), H', ⟨Nat.le_refl _⟩, by repeat (first | exact Drawn0.refl _ | apply Drawn0.step)⟩
  case round =>
    clear H'
    obtain ⟨x0_1, x3_1, rfl, rfl, HA, HK1, ⟨m1, rfl⟩⟩ := hrel
    cases gk with
    | zero => exact absurd HA.out (by simp [octal_digits.l0])
    | succ k1 =>
      have H := HA.out
      clear HA
      simp only [octal_digits.l0] at H
      by_cases c2 : x0_1 ≥ 8
      · rw [if_pos c2] at H
        have c2b0 : decide (8 ≤ x0_1) = true := decide_eq_true c2
        clear c2
        have H' := Aside0.mk H
        clear H
        go_wp2
        go_roundg k1
        case measure => have := HK1.out; omega
        case rel => exact ⟨(wrap64 (Int.tdiv x0_1 8)), (wrap64 (x3_1 + 1)), (by first | rfl | (simp; done) | (simp; exact (fun l_ : List UInt8 => (by cases l_ <;> rfl : l_.isEmpty = !(l_ != []))) _) | (simp; exact (fun (x_ : Bool) (l_ : List UInt8) => (by cases x_ <;> cases l_ <;> rfl : (x_ == !l_.isEmpty) = !(x_ != (l_ != [])))) _ _) | (simp [*]; done)), (by first | rfl | (simp; done) | (simp; exact (fun l_ : List UInt8 => (by cases l_ <;> rfl : l_.isEmpty = !(l_ != []))) _) | (simp; exact (fun (x_ : Bool) (l_ : List UInt8) => (by cases x_ <;> cases l_ <;> rfl : (x_ == !l_.isEmpty) = !(x_ != (l_ != [])))) _ _) | (simp [*]; done)), H', ⟨by have := HK1.out; omega⟩, by repeat (first | exact Drawn0.refl _ | apply Drawn0.step)⟩
      · rw [if_neg c2] at H
        have c2b0 : decide (8 ≤ x0_1) = false := decide_eq_false c2
        clear c2
        obtain rfl := Option.some.inj H
        go_wp2
        go_ret
        exact ⟨by first | rfl | (simp; done) | (simp [*]; done), by repeat (first | exact Drawn0.refl _ | apply Drawn0.step)⟩

/-! ### octal_Fits: function 59 -/
def octal_Fits.f (k : Nat) (a0 : Int) (a1 : Int) : Option (Bool) := if a0 ≥ 0 then (if a1 ≥ 2 then ((octal_digits.f k a0).bind fun t101 => (some (decide (t101 < a1)))) else (some false)) else (some false)
theorem octal_Fits.mono : ∀ a0 a1 k, LeO (octal_Fits.f k a0 a1) (octal_Fits.f (k + 1) a0 a1) := by
  intro a0 a1 k
  unfold octal_Fits.f
  repeat' first
      | (with_reducible exact octal_digits.mono _ _)
      | (with_reducible exact LeO.refl _)
      | (with_reducible exact LeO.none _)
      | (with_reducible refine LeO.ite ?_ ?_)
      | (with_reducible refine LeO.bind ?_ (fun _ => ?_))
      | exact octal_digits.mono _ _
      | exact LeO.none _
      | refine LeO.ite ?_ ?_
      | refine LeO.bind ?_ (fun _ => ?_)
set_option maxHeartbeats 8000000 in
set_option maxRecDepth 100000 in
theorem octal_Fits.calls (k : Nat) (a0 : Int) (a1 : Int) (r : Bool) (w : World) (h : octal_Fits.f k a0 a1 = some r) :
    Calls Tryz.prog 59 #[.int .i64 a0, .int .i64 a1] w fun e w' => e = .returned (.bool r) ∧ Drawn0 w w' := by
  have H : (if a0 ≥ 0 then (if a1 ≥ 2 then ((octal_digits.f k a0).bind fun t101 => (some (decide (t101 < a1)))) else (some false)) else (some false)) = some r := h
  clear h
  by_cases c3 : a0 ≥ 0
  · rw [if_pos c3] at H
    have c3b0 : decide (0 ≤ a0) = true := decide_eq_true c3
    clear c3
    by_cases c4 : a1 ≥ 2
    · rw [if_pos c4] at H
      have c4b0 : decide (2 ≤ a1) = true := decide_eq_true c4
      clear c4
      replace H := Option.bind_eq_some_iff.mp H
      obtain ⟨t101, A50, H⟩ := H
      replace H : (some (decide (t101 < a1))) = some r := H
      have A5 := Aside0.mk A50
      clear A50
      obtain rfl := Option.some.inj H
      go_enter Tryz.func59, Tryz.ntmps59
      go_wp2_with (first | (go_at_call 88; (with_reducible refine (octal_digits.calls k a0 t101 _ A5.out).mono ?_); rintro e w' ⟨rfl, ⟨nd, rfl⟩⟩))
      go_ret
      exact ⟨by first | rfl | (simp; done) | (simp [*]; done), by repeat (first | exact Drawn0.refl _ | apply Drawn0.step)⟩
    · rw [if_neg c4] at H
      have c4b0 : decide (2 ≤ a1) = false := decide_eq_false c4
      clear c4
      obtain rfl := Option.some.inj H
      go_enter Tryz.func59, Tryz.ntmps59
      go_wp2
      go_ret
      exact ⟨by first | rfl | (simp; done) | (simp [*]; done), by repeat (first | exact Drawn0.refl _ | apply Drawn0.step)⟩
  · rw [if_neg c3] at H
    have c3b0 : decide (0 ≤ a0) = false := decide_eq_false c3
    clear c3
    obtain rfl := Option.some.inj H
    go_enter Tryz.func59, Tryz.ntmps59
    go_wp2
    go_ret
    exact ⟨by first | rfl | (simp; done) | (simp [*]; done), by repeat (first | exact Drawn0.refl _ | apply Drawn0.step)⟩

/-! ### octal_Format: function 34 -/
mutual
def octal_Format.j0 : Nat → Int → Int → Bool → Option (List Int × Int)
  | 0, _, _, _ => none
  | k + 1, x0, x1, x8 => if x8 = true then (some (([] : List Int), 1)) else ((octal_Fits.f k x0 x1).bind fun t102 => (if t102 = true then (if 0 ≤ x1 then (if (x1 : Int).toNat ≤ 281474976710656 then (octal_Format.l0 k x0 (List.replicate (x1 : Int).toNat 0) (wrap64 (x1 - 2))) else (none)) else (none)) else (some (([] : List Int), 20))))
def octal_Format.l0 : Nat → Int → List Int → Int → Option (List Int × Int)
  | 0, _, _, _ => none
  | k + 1, x0, x6, x7 => if x7 ≥ 0 then (if 0 ≤ x7 then (if x7 < (x6.length : Int) then (octal_Format.l0 k (wrap64 (Int.tdiv x0 8)) (x6.set (x7 : Int).toNat ((wrap64 (48 + (Int.tmod x0 8))) % 256)) (wrap64 (x7 - 1))) else (none)) else (none)) else (some (x6, 0))
end
def octal_Format.f (k : Nat) (a0 : Int) (a1 : Int) : Option (List Int × Int) := if a1 < 2 then (octal_Format.j0 k a0 a1 true) else (octal_Format.j0 k a0 a1 (decide (a1 > 24)))
theorem octal_Format.mono_l : ∀ k, (∀ y0 y1 y2, LeO (octal_Format.j0 k y0 y1 y2) (octal_Format.j0 (k + 1) y0 y1 y2)) ∧ (∀ y0 y1 y2, LeO (octal_Format.l0 k y0 y1 y2) (octal_Format.l0 (k + 1) y0 y1 y2))
  | 0 => ⟨fun _ _ _ r h => by simp [octal_Format.j0] at h, fun _ _ _ r h => by simp [octal_Format.l0] at h⟩
  | k + 1 => by
    obtain ⟨ih0, ih1⟩ := octal_Format.mono_l k
    refine ⟨?_, ?_⟩
    · intro y0 y1 y2
      unfold octal_Format.j0
      repeat' first
      | (with_reducible exact ih0 _ _ _)
      | (with_reducible exact ih1 _ _ _)
      | (with_reducible exact octal_Fits.mono _ _ _)
      | (with_reducible exact LeO.refl _)
      | (with_reducible exact LeO.none _)
      | (with_reducible refine LeO.ite ?_ ?_)
      | (with_reducible refine LeO.bind ?_ (fun _ => ?_))
      | exact ih0 _ _ _
      | exact ih1 _ _ _
      | exact octal_Fits.mono _ _ _
      | exact LeO.none _
      | refine LeO.ite ?_ ?_
      | refine LeO.bind ?_ (fun _ => ?_)
    · intro y0 y1 y2
      unfold octal_Format.l0
      repeat' first
      | (with_reducible exact ih0 _ _ _)
      | (with_reducible exact ih1 _ _ _)
      | (with_reducible exact octal_Fits.mono _ _ _)
      | (with_reducible exact LeO.refl _)
      | (with_reducible exact LeO.none _)
      | (with_reducible refine LeO.ite ?_ ?_)
      | (with_reducible refine LeO.bind ?_ (fun _ => ?_))
      | exact ih0 _ _ _
      | exact ih1 _ _ _
      | exact octal_Fits.mono _ _ _
      | exact LeO.none _
      | refine LeO.ite ?_ ?_
      | refine LeO.bind ?_ (fun _ => ?_)
theorem octal_Format.mono : ∀ a0 a1 k, LeO (octal_Format.f k a0 a1) (octal_Format.f (k + 1) a0 a1) := by
  intro a0 a1 k
  obtain ⟨ih0, ih1⟩ := octal_Format.mono_l k
  unfold octal_Format.f
  repeat' first
      | (with_reducible exact ih0 _ _ _)
      | (with_reducible exact ih1 _ _ _)
      | (with_reducible exact octal_Fits.mono _ _ _)
      | (with_reducible exact LeO.refl _)
      | (with_reducible exact LeO.none _)
      | (with_reducible refine LeO.ite ?_ ?_)
      | (with_reducible refine LeO.bind ?_ (fun _ => ?_))
      | exact ih0 _ _ _
      | exact ih1 _ _ _
      | exact octal_Fits.mono _ _ _
      | exact LeO.none _
      | refine LeO.ite ?_ ?_
      | refine LeO.bind ?_ (fun _ => ?_)
set_option maxHeartbeats 8000000 in
set_option maxRecDepth 100000 in
theorem octal_Format.calls (k : Nat) (a0 : Int) (a1 : Int) (r1 : List Int) (r2 : Int) (w : World) (h : octal_Format.f k a0 a1 = some (r1, r2)) :
    Calls Tryz.prog 34 #[.int .i64 a0, .int .i64 a1] w fun e w' => ∃ v0_ : Value, e = .returned (.tuple #[v0_, .int .i64 r2]) ∧ Kd.R (Kd.int .u8) 5 w' w.heap.size (fun _ => True) v0_ r1 ∧ Below w.heap.size w w' := by
  have HB := Aside0.mk (Below.refl w.heap.size w)
  have H : (if a1 < 2 then (octal_Format.j0 k a0 a1 true) else (octal_Format.j0 k a0 a1 (decide (a1 > 24)))) = some (r1, r2) := h
  clear h
  have HC3 := Aside0.mk H
  clear H
  go_enter Tryz.func34, Tryz.ntmps34
  go_upto_region 1 with (fail)
  go_cut [8] (fun v8 wc => ∃ (kq : Nat) (x8_2 : Bool), v8 = .bool x8_2 ∧ Aside0 (octal_Format.j0 kq a0 a1 x8_2 = some (r1, r2)) ∧ Aside0 (kq ≤ k) ∧ Aside0 (Below w.heap.size w wc))
  case first =>
    have H := HC3.out
    clear HC3
    by_cases c4 : a1 < 2
    · rw [if_pos c4] at H
      have c4b0 : decide (a1 < 2) = true := decide_eq_true c4
      clear c4
      (first | rw [c4b0] | (simp only [i64_w, i32_w]; rw [c4b0]) | skip)
      have H' := Aside0.mk H
      clear H
      go_wp2
      go_meet
      case rel => exact ⟨_, (true), (by first | rfl | (simp; done) | (simp; exact (fun l_ : List UInt8 => (by cases l_ <;> rfl : l_.isEmpty = !(l_ != []))) _) | (simp; exact (fun (x_ : Bool) (l_ : List UInt8) => (by cases x_ <;> cases l_ <;> rfl : (x_ == !l_.isEmpty) = !(x_ != (l_ != [])))) _ _) | (simp [*]; done)), H', ⟨by first | omega | exact Nat.le_refl _⟩, ⟨by repeat (first | (with_reducible first | exact HB.out | apply below_alloc | apply pw_below_drewN | apply below_drew1) | exact HB.out)⟩⟩
    · rw [if_neg c4] at H
      have c4b0 : decide (a1 < 2) = false := decide_eq_false c4
      clear c4
      (first | rw [c4b0] | (simp only [i64_w, i32_w]; rw [c4b0]) | skip)
      have H' := Aside0.mk H
      clear H
      go_wp2
      go_meet
      case rel => exact ⟨_, (decide (a1 > 24)), (by first | rfl | (simp; done) | (simp; exact (fun l_ : List UInt8 => (by cases l_ <;> rfl : l_.isEmpty = !(l_ != []))) _) | (simp; exact (fun (x_ : Bool) (l_ : List UInt8) => (by cases x_ <;> cases l_ <;> rfl : (x_ == !l_.isEmpty) = !(x_ != (l_ != [])))) _ _) | (simp [*]; done)), H', ⟨by first | omega | exact Nat.le_refl _⟩, ⟨by repeat (first | (with_reducible first | exact HB.out | apply below_alloc | apply pw_below_drewN | apply below_drew1) | exact HB.out)⟩⟩
  case rest =>
    clear HC3
    try clear p2
    try clear c3
    try clear c4
    try clear c4b0
    obtain ⟨kq, x8_2, rfl, HA, HJ2, HB⟩ := hcut
    cases kq with
    | zero => exact absurd HA.out (by simp [octal_Format.j0])
    | succ kj2 =>
      have H := HA.out
      clear HA
      simp only [octal_Format.j0] at H
      by_cases c5 : x8_2 = true
      · subst c5
        have H1 : (some (([] : List Int), 1)) = some (r1, r2) := by rw [if_pos rfl] at H; exact H
        clear H
        have H := H1
        clear H1
        simp only [Option.some.injEq, Prod.mk.injEq] at H
        obtain ⟨rfl, rfl⟩ := H
        go_wp2
        go_ret2
        exact ⟨_, by first | rfl | (simp [errW_none, errW_some] <;> rfl) | (simp [*, errW_none, errW_some] <;> rfl), by first | exact Kd.R_nil _ _ _ _ _ | exact Kd.N_nil _ _ _ _ _ | exact Kd.V_nil _ _ _ _ _ | exact Kd.Q_nil _ _ _ _ _ | exact Kd.S_nil _ _ _ _ _, by repeat (first | (with_reducible first | exact HB.out | apply below_alloc | apply pw_below_drewN | apply below_drew1) | exact HB.out)⟩
      · replace c5 := Bool.eq_false_iff.mpr c5
        subst c5
        have H1 : ((octal_Fits.f kj2 a0 a1).bind fun t102 => (if t102 = true then (if 0 ≤ a1 then (if (a1 : Int).toNat ≤ 281474976710656 then (octal_Format.l0 kj2 a0 (List.replicate (a1 : Int).toNat 0) (wrap64 (a1 - 2))) else (none)) else (none)) else (some (([] : List Int), 20)))) = some (r1, r2) := by rw [if_neg (show ¬ (false = true) by decide)] at H; exact H
        clear H
        have H := H1
        clear H1
        replace H := Option.bind_eq_some_iff.mp H
        obtain ⟨t102, A60, H⟩ := H
        replace H : (if t102 = true then (if 0 ≤ a1 then (if (a1 : Int).toNat ≤ 281474976710656 then (octal_Format.l0 kj2 a0 (List.replicate (a1 : Int).toNat 0) (wrap64 (a1 - 2))) else (none)) else (none)) else (some (([] : List Int), 20))) = some (r1, r2) := H
        have A6 := Aside0.mk A60
        clear A60
        by_cases c7 : t102 = true
        · subst c7
          have H1 : (if 0 ≤ a1 then (if (a1 : Int).toNat ≤ 281474976710656 then (octal_Format.l0 kj2 a0 (List.replicate (a1 : Int).toNat 0) (wrap64 (a1 - 2))) else (none)) else (none)) = some (r1, r2) := by rw [if_pos rfl] at H; exact H
          clear H
          have H := H1
          clear H1
          by_cases c8 : 0 ≤ a1
          · rw [if_pos c8] at H
            have c8b0 := eq_true c8
            have c8b1 : decide (0 ≤ a1) = true := decide_eq_true c8
            clear c8
            by_cases c9 : (a1 : Int).toNat ≤ 281474976710656
            · rw [if_pos c9] at H
              have c9b0 := eq_true c9
              have c9b1 : decide ((a1 : Int).toNat ≤ 281474976710656) = true := decide_eq_true c9
              clear c9
              obtain ⟨y103, hy103⟩ : ∃ y_ : List Int, y_ = (List.replicate (a1 : Int).toNat 0) := ⟨_, rfl⟩
              replace H : (octal_Format.l0 kj2 a0 y103 (wrap64 (a1 - 2))) = some (r1, r2) := by first | (rw [hy103]; with_reducible exact H) | (have H2_ := (Option.bind_some _ _).symm.trans H; rw [hy103]; with_reducible exact H2_) | (have H2_ := (Option.bind_some _ _).symm.trans H; with_reducible exact H2_) | with_reducible exact H | (rw [hy103]; exact H) | exact H
              have Ny103 := Aside0.mk hy103
              clear hy103
              have H' := Aside0.mk H
              clear H
              go_wp2_with (first | ((with_reducible refine gate_callee (f := 59) rfl ?_); refine goesL_ (some 18) rfl rfl Tryz.func59 (by kernel_rfl) rfl #[.int .i64 a0, .int .i64 a1] rfl (by (try simp only [List.map_toArray, List.map_cons, List.map_nil]); first | done | rfl | (simp only [List.length_drop, List.length_take]; rfl)) ?_; (with_reducible refine (octal_Fits.calls kj2 a0 a1 true _ A6.out).mono ?_); rintro e w' ⟨rfl, ⟨nd, rfl⟩⟩; refine ⟨_, rfl, ?_⟩) | ((with_reducible refine gate_dst (N := 21) rfl ?_); refine Kd.R_make (Kd.int .u8) _ 5 rfl (N := 21) rfl 32 _ _ rfl a1 rfl rfl Tryz.underlying32 (.int .u8 0) 1 info5 rfl (by decide) (by omega) 0 (ok := fun _ => True) (okp := fun _ => True) rfl (fun _ hk => hk) trivial (of_decide_eq_true (by first | (with_reducible assumption) | assumption)) (Nat.le_trans (Nat.mul_le_mul_right _ (of_decide_eq_true (by first | (with_reducible assumption) | assumption) : a1.toNat ≤ 281474976710656)) (by omega)) (Below.refl _ _) (Nat.le_refl _) ?_; intro v104 w10 ho11 hb hg_ hnew_; clear hg_ hnew_; (first | rw [← Ny103.out] at ho11 | (simp only [Int.reduceToNat] at ho11; rw [← Ny103.out] at ho11)); have n0_ := Aside0.mk (Kd.R_lower ho11 (below_size (by repeat (first | (with_reducible first | exact HB.out | apply below_alloc | apply pw_below_drewN | apply below_drew1) | exact HB.out)))); have n1_ := Aside0.mk (below_step (by repeat (first | (with_reducible first | exact HB.out | apply below_alloc | apply pw_below_drewN | apply below_drew1) | exact HB.out)) hb); clear HB; have HO105 := n0_; have HB := n1_; clear n0_ n1_; clear hb ho11))
              go_loopg [0, 7] kj2 (fun kq v0 v7 w' => ∃ (x0_2 : Int) (x6_2 : List Int) (x7_2 : Int), v0 = .int .i64 x0_2 ∧ v7 = .int .i64 x7_2 ∧ Aside0 (octal_Format.l0 kq x0_2 x6_2 x7_2 = some (r1, r2)) ∧ Aside0 (kq ≤ kj2) ∧ Aside0 (Kd.R (Kd.int .u8) 5 w' w.heap.size (fun _ => True) v104 x6_2) ∧ Aside0 (Below w.heap.size w w'))
              case atStart => exact ⟨(a0), (y103), (wrap64 (a1 - 2)), (by first | rfl | (simp; done) | (simp; exact (fun l_ : List UInt8 => (by cases l_ <;> rfl : l_.isEmpty = !(l_ != []))) _) | (simp; exact (fun (x_ : Bool) (l_ : List UInt8) => (by cases x_ <;> cases l_ <;> rfl : (x_ == !l_.isEmpty) = !(x_ != (l_ != [])))) _ _) | (simp [*]; done)), (by first | rfl | (simp; done) | (simp; exact (fun l_ : List UInt8 => (by cases l_ <;> rfl : l_.isEmpty = !(l_ != []))) _) | (simp; exact (fun (x_ : Bool) (l_ : List UInt8) => (by cases x_ <;> cases l_ <;> rfl : (x_ == !l_.isEmpty) = !(x_ != (l_ != [])))) _ _) | (simp [*]; done)), H', ⟨Nat.le_refl _⟩, ⟨by (with_reducible repeat (first | apply Kd.R_alloc | apply Kd.R_drewN | apply Kd.R_drew)); exact HO105.out⟩, ⟨by repeat (first | (with_reducible first | exact HB.out | apply below_alloc | apply pw_below_drewN | apply below_drew1) | exact HB.out)⟩⟩
              case round =>
                clear H'
                try clear p2
                try clear c3
                try clear c4
                try clear c4b0
                try clear c5
                try clear p6
                try clear c7
                try clear c8
                try clear c8b0
                try clear c8b1
                try clear c9
                try clear c9b0
                try clear c9b1
                try clear p2
                obtain ⟨x0_2, x6_2, x7_2, rfl, rfl, HA, HK2, HO_6, HB⟩ := hrel
                cases gk with
                | zero => exact absurd HA.out (by simp [octal_Format.l0])
                | succ k2 =>
                  have H := HA.out
                  clear HA
                  simp only [octal_Format.l0] at H
                  by_cases c12 : x7_2 ≥ 0
                  · rw [if_pos c12] at H
                    have c12b0 : decide (0 ≤ x7_2) = true := decide_eq_true c12
                    clear c12
                    by_cases c13 : 0 ≤ x7_2
                    · rw [if_pos c13] at H
                      have c13b0 : decide (0 ≤ x7_2) = true := decide_eq_true c13
                      clear c13
                      by_cases c14 : x7_2 < (x6_2.length : Int)
                      · rw [if_pos c14] at H
                        have c14b0 : decide (x7_2 < (x6_2.length : Int)) = true := decide_eq_true c14
                        clear c14
                        obtain ⟨y106, hy106⟩ : ∃ y_ : List Int, y_ = (x6_2.set (x7_2 : Int).toNat ((wrap64 (48 + (Int.tmod x0_2 8))) % 256)) := ⟨_, rfl⟩
                        replace H : (octal_Format.l0 k2 (wrap64 (Int.tdiv x0_2 8)) y106 (wrap64 (x7_2 - 1))) = some (r1, r2) := by first | (rw [hy106]; with_reducible exact H) | (have H2_ := (Option.bind_some _ _).symm.trans H; rw [hy106]; with_reducible exact H2_) | (have H2_ := (Option.bind_some _ _).symm.trans H; with_reducible exact H2_) | with_reducible exact H | (rw [hy106]; exact H) | exact H
                        have Ny106 := Aside0.mk hy106
                        clear hy106
                        have H' := Aside0.mk H
                        clear H
                        have p15 : 0 ≤ (x7_2 : Int) := of_decide_eq_true (by first | (with_reducible assumption) | assumption)
                        have q15 : (x7_2 : Int) < ((x6_2.length : Int) : Int) := of_decide_eq_true (by first | (with_reducible assumption) | assumption)
                        obtain ⟨go15, co15, eo15, gb15, gl15, cl15, HG15⟩ := Kd.R_form HO_6.out (by omega)
                        (first | cases eo15 | (injection eo15 with ea_ en_ ec_; (first | subst ea_ | (injection ea_ with ea_; subst ea_)); subst ec_; clear en_))
                        have GB15 := Aside0.mk gb15
                        have GG15 := Aside0.mk HG15
                        clear gb15 gl15 HG15
                        obtain ⟨hx15_0, hf15_0⟩ := Kd.R_celln 0 HO_6.out (x7_2 : Int) p15 q15
                        replace p15 := eq_true p15
                        replace q15 := eq_true q15
                        have HP16 := Kd.R_putg HO_6.out (x7_2 : Int) ((wrap64 (48 + (Int.tmod x0_2 8))) % 256)
                        go_wp2_with (first | ((with_reducible refine gate_store (t := 5) (p := 34) rfl ?_); refine store_event (t := 5) (p := 34) (v := ?vo_w17) (w1 := (wr.setCell ⟨go15, (x7_2 : Int).toNat, none⟩ (.int .u8 ((wrap64 (48 + (Int.tmod x0_2 8))) % 256)))) ?hg ?ho ?hn ?hr ?_; (case ho => rfl); (case hg => rfl); (case hn => rfl); (case hr => first | (go_simp; done) | (go_simp; rfl)); intro w17 hw; have hg : wr.grownBy w17 (some go15) := (by rw [hw]; exact HP16.2); have hp_ : Kd.R (Kd.int .u8) 5 w17 w.heap.size (fun _ => True) (.slice (some ⟨go15, 0, none⟩) x6_2.length co15) y106 := (by rw [hw, Ny106.out]; exact HP16.1); clear HP16; have n0_ := Aside0.mk (hp_); have n1_ := Aside0.mk ((by rw [hw]; exact below_set (HB.out) GB15.out : Below w.heap.size w w17)); clear HO_6; clear HB; have HO_6 := n0_; have HB := n1_; clear n0_ n1_; clear hg hw hp_))
                        go_roundg k2
                        case measure => have := HJ2.out; have := HK2.out; omega
                        case rel => exact ⟨(wrap64 (Int.tdiv x0_2 8)), (y106), (wrap64 (x7_2 - 1)), (by first | rfl | (simp; done) | (simp; exact (fun l_ : List UInt8 => (by cases l_ <;> rfl : l_.isEmpty = !(l_ != []))) _) | (simp; exact (fun (x_ : Bool) (l_ : List UInt8) => (by cases x_ <;> cases l_ <;> rfl : (x_ == !l_.isEmpty) = !(x_ != (l_ != [])))) _ _) | (simp [*]; done)), (by first | rfl | (simp; done) | (simp; exact (fun l_ : List UInt8 => (by cases l_ <;> rfl : l_.isEmpty = !(l_ != []))) _) | (simp; exact (fun (x_ : Bool) (l_ : List UInt8) => (by cases x_ <;> cases l_ <;> rfl : (x_ == !l_.isEmpty) = !(x_ != (l_ != [])))) _ _) | (simp [*]; done)), H', ⟨by have := HJ2.out; have := HK2.out; omega⟩, ⟨by (with_reducible repeat (first | apply Kd.R_alloc | apply Kd.R_drewN | apply Kd.R_drew)); exact HO_6.out⟩, ⟨by repeat (first | (with_reducible first | exact HB.out | apply below_alloc | apply pw_below_drewN | apply below_drew1) | exact HB.out)⟩⟩
                      · rw [if_neg c14] at H
                        exact absurd H (by simp)
                    · rw [if_neg c13] at H
                      exact absurd H (by simp)
                  · rw [if_neg c12] at H
                    have c12b0 : decide (0 ≤ x7_2) = false := decide_eq_false c12
                    clear c12
                    simp only [Option.some.injEq, Prod.mk.injEq] at H
                    obtain ⟨rfl, rfl⟩ := H
                    go_wp2
                    go_ret2
                    exact ⟨_, by first | rfl | (simp [errW_none, errW_some] <;> rfl) | (simp [*, errW_none, errW_some] <;> rfl), by (with_reducible repeat (first | apply Kd.R_alloc | apply Kd.R_drewN | apply Kd.R_drew)); exact HO_6.out, by repeat (first | (with_reducible first | exact HB.out | apply below_alloc | apply pw_below_drewN | apply below_drew1) | exact HB.out)⟩
            · rw [if_neg c9] at H
              exact absurd H (by simp)
          · rw [if_neg c8] at H
            exact absurd H (by simp)
        · replace c7 := Bool.eq_false_iff.mpr c7
          subst c7
          have H1 : (some (([] : List Int), 20)) = some (r1, r2) := by rw [if_neg (show ¬ (false = true) by decide)] at H; exact H
          clear H
          have H := H1
          clear H1
          simp only [Option.some.injEq, Prod.mk.injEq] at H
          obtain ⟨rfl, rfl⟩ := H
          go_wp2_with (first | ((with_reducible refine gate_callee (f := 59) rfl ?_); refine goesL_ (some 18) rfl rfl Tryz.func59 (by kernel_rfl) rfl #[.int .i64 a0, .int .i64 a1] rfl (by (try simp only [List.map_toArray, List.map_cons, List.map_nil]); first | done | rfl | (simp only [List.length_drop, List.length_take]; rfl)) ?_; (with_reducible refine (octal_Fits.calls kj2 a0 a1 false _ A6.out).mono ?_); rintro e w' ⟨rfl, ⟨nd, rfl⟩⟩; refine ⟨_, rfl, ?_⟩))
          go_ret2
          exact ⟨_, by first | rfl | (simp [errW_none, errW_some] <;> rfl) | (simp [*, errW_none, errW_some] <;> rfl), by first | exact Kd.R_nil _ _ _ _ _ | exact Kd.N_nil _ _ _ _ _ | exact Kd.V_nil _ _ _ _ _ | exact Kd.Q_nil _ _ _ _ _ | exact Kd.S_nil _ _ _ _ _, by repeat (first | (with_reducible first | exact HB.out | apply below_alloc | apply pw_below_drewN | apply below_drew1) | exact HB.out)⟩

/-! ### head_Fits: function 33 -/
def head_Fits.f (a0 : ByteArray) (a1 : Int) : Option (Bool) := if (a0.size : Int) ≤ a1 then ((strings_Contains.f a0 (⟨#[0]⟩ : ByteArray)).bind fun t107 => (some (!t107))) else (some false)
set_option maxHeartbeats 8000000 in
set_option maxRecDepth 100000 in
theorem head_Fits.calls (a0 : ByteArray) (a1 : Int) (r : Bool) (w : World) (h : head_Fits.f a0 a1 = some r) :
    Calls Tryz.prog 33 #[.string a0, .int .i64 a1] w fun e w' => e = .returned (.bool r) ∧ Below w.heap.size w w' := by
  have HB := Aside0.mk (Below.refl w.heap.size w)
  have H : (if (a0.size : Int) ≤ a1 then ((strings_Contains.f a0 (⟨#[0]⟩ : ByteArray)).bind fun t107 => (some (!t107))) else (some false)) = some r := h
  clear h
  by_cases c3 : (a0.size : Int) ≤ a1
  · rw [if_pos c3] at H
    have c3b0 : decide ((a0.size : Int) ≤ a1) = true := decide_eq_true c3
    clear c3
    replace H := Option.bind_eq_some_iff.mp H
    obtain ⟨t107, A40, H⟩ := H
    replace H : (some (!t107)) = some r := H
    have A4 := Aside0.mk A40
    clear A40
    obtain rfl := Option.some.inj H
    go_enter Tryz.func33, Tryz.ntmps33
    go_wp2_with (first | (go_at_call 58; (with_reducible refine (strings_Contains.calls a0 (⟨#[0]⟩ : ByteArray) t107 _ A4.out).mono ?_); rintro e w5 ⟨rfl, hb⟩; have n0_ := Aside0.mk (below_step (by repeat (first | (with_reducible first | exact HB.out | apply below_alloc | apply pw_below_drewN | apply below_drew1) | exact HB.out)) hb); clear HB; have HB := n0_; clear n0_; (try clear hb); (try clear hb2); (try clear hk); (try clear hi)))
    go_ret
    exact ⟨by first | rfl | (simp [errW_none, errW_some] <;> rfl) | (simp [*, errW_none, errW_some] <;> rfl), by repeat (first | (with_reducible first | exact HB.out | apply below_alloc | apply pw_below_drewN | apply below_drew1) | exact HB.out)⟩
  · rw [if_neg c3] at H
    have c3b0 : decide ((a0.size : Int) ≤ a1) = false := decide_eq_false c3
    clear c3
    obtain rfl := Option.some.inj H
    go_enter Tryz.func33, Tryz.ntmps33
    go_wp2
    go_ret
    exact ⟨by first | rfl | (simp [errW_none, errW_some] <;> rfl) | (simp [*, errW_none, errW_some] <;> rfl), by repeat (first | (with_reducible first | exact HB.out | apply below_alloc | apply pw_below_drewN | apply below_drew1) | exact HB.out)⟩

/-! ### head_Split: function 82 -/
mutual
def head_Split.j0 : Nat → ByteArray → Bool → Option (ByteArray × ByteArray × Bool)
  | 0, _, _ => none
  | k + 1, x0, x11 => if x11 = true then (some ((⟨#[]⟩ : ByteArray), (⟨#[]⟩ : ByteArray), false)) else (if (x0.size : Int) ≤ 100 then (some ((⟨#[]⟩ : ByteArray), x0, true)) else (head_Split.l0 k x0 (x0.size : Int) 0))
def head_Split.l0 : Nat → ByteArray → Int → Int → Option (ByteArray × ByteArray × Bool)
  | 0, _, _, _ => none
  | k + 1, x0, x17, x18 => if x18 < x17 then (if 0 ≤ x18 then (if x18 < (x0.size : Int) then (if (bt x0 x18) = 47 then (if x18 = 0 then (head_Split.j2 k x0 x18 x17 x18 true) else (if (wrap64 ((wrap64 ((x0.size : Int) - x18)) - 1)) > 100 then (head_Split.j2 k x0 x18 x17 x18 true) else (head_Split.j2 k x0 x18 x17 x18 (x18 == (wrap64 ((x0.size : Int) - 1)))))) else (head_Split.j2 k x0 x18 x17 x18 true)) else (none)) else (none)) else (some ((⟨#[]⟩ : ByteArray), (⟨#[]⟩ : ByteArray), false))
def head_Split.j2 : Nat → ByteArray → Int → Int → Int → Bool → Option (ByteArray × ByteArray × Bool)
  | 0, _, _, _, _, _ => none
  | k + 1, x0, x5, x17, x18, x43 => if x43 = true then (head_Split.l0 k x0 x17 (wrap64 (x18 + 1))) else (if x5 > 155 then (some ((⟨#[]⟩ : ByteArray), (⟨#[]⟩ : ByteArray), false)) else (if 0 ≤ x5 then (if x5 ≤ (x0.size : Int) then (if 0 ≤ (wrap64 (x5 + 1)) then (if (wrap64 (x5 + 1)) ≤ (x0.size : Int) then (some (x0.extract 0 (x5 : Int).toNat, x0.extract ((wrap64 (x5 + 1)) : Int).toNat x0.size, true)) else (none)) else (none)) else (none)) else (none)))
end
def head_Split.f (k : Nat) (a0 : ByteArray) : Option (ByteArray × ByteArray × Bool) := if a0.toList = ([] : List UInt8) then (head_Split.j0 k a0 true) else ((strings_Contains.f a0 (⟨#[0]⟩ : ByteArray)).bind fun t108 => (head_Split.j0 k a0 t108))
theorem head_Split.mono_l : ∀ k, (∀ y0 y1, LeO (head_Split.j0 k y0 y1) (head_Split.j0 (k + 1) y0 y1)) ∧ (∀ y0 y1 y2, LeO (head_Split.l0 k y0 y1 y2) (head_Split.l0 (k + 1) y0 y1 y2)) ∧ (∀ y0 y1 y2 y3 y4, LeO (head_Split.j2 k y0 y1 y2 y3 y4) (head_Split.j2 (k + 1) y0 y1 y2 y3 y4))
  | 0 => ⟨fun _ _ r h => by simp [head_Split.j0] at h, fun _ _ _ r h => by simp [head_Split.l0] at h, fun _ _ _ _ _ r h => by simp [head_Split.j2] at h⟩
  | k + 1 => by
    obtain ⟨ih0, ih1, ih2⟩ := head_Split.mono_l k
    refine ⟨?_, ?_, ?_⟩
    · intro y0 y1
      unfold head_Split.j0
      repeat' first
      | (with_reducible exact ih0 _ _)
      | (with_reducible exact ih1 _ _ _)
      | (with_reducible exact ih2 _ _ _ _ _)
      | (with_reducible exact LeO.refl _)
      | (with_reducible exact LeO.none _)
      | (with_reducible refine LeO.ite ?_ ?_)
      | (with_reducible refine LeO.bind ?_ (fun _ => ?_))
      | exact ih0 _ _
      | exact ih1 _ _ _
      | exact ih2 _ _ _ _ _
      | exact LeO.none _
      | refine LeO.ite ?_ ?_
      | refine LeO.bind ?_ (fun _ => ?_)
    · intro y0 y1 y2
      unfold head_Split.l0
      repeat' first
      | (with_reducible exact ih0 _ _)
      | (with_reducible exact ih1 _ _ _)
      | (with_reducible exact ih2 _ _ _ _ _)
      | (with_reducible exact LeO.refl _)
      | (with_reducible exact LeO.none _)
      | (with_reducible refine LeO.ite ?_ ?_)
      | (with_reducible refine LeO.bind ?_ (fun _ => ?_))
      | exact ih0 _ _
      | exact ih1 _ _ _
      | exact ih2 _ _ _ _ _
      | exact LeO.none _
      | refine LeO.ite ?_ ?_
      | refine LeO.bind ?_ (fun _ => ?_)
    · intro y0 y1 y2 y3 y4
      unfold head_Split.j2
      repeat' first
      | (with_reducible exact ih0 _ _)
      | (with_reducible exact ih1 _ _ _)
      | (with_reducible exact ih2 _ _ _ _ _)
      | (with_reducible exact LeO.refl _)
      | (with_reducible exact LeO.none _)
      | (with_reducible refine LeO.ite ?_ ?_)
      | (with_reducible refine LeO.bind ?_ (fun _ => ?_))
      | exact ih0 _ _
      | exact ih1 _ _ _
      | exact ih2 _ _ _ _ _
      | exact LeO.none _
      | refine LeO.ite ?_ ?_
      | refine LeO.bind ?_ (fun _ => ?_)
theorem head_Split.mono : ∀ a0 k, LeO (head_Split.f k a0) (head_Split.f (k + 1) a0) := by
  intro a0 k
  obtain ⟨ih0, ih1, ih2⟩ := head_Split.mono_l k
  unfold head_Split.f
  repeat' first
      | (with_reducible exact ih0 _ _)
      | (with_reducible exact ih1 _ _ _)
      | (with_reducible exact ih2 _ _ _ _ _)
      | (with_reducible exact LeO.refl _)
      | (with_reducible exact LeO.none _)
      | (with_reducible refine LeO.ite ?_ ?_)
      | (with_reducible refine LeO.bind ?_ (fun _ => ?_))
      | exact ih0 _ _
      | exact ih1 _ _ _
      | exact ih2 _ _ _ _ _
      | exact LeO.none _
      | refine LeO.ite ?_ ?_
      | refine LeO.bind ?_ (fun _ => ?_)
set_option maxHeartbeats 8000000 in
set_option maxRecDepth 100000 in
theorem head_Split.calls (k : Nat) (a0 : ByteArray) (r1 : ByteArray) (r2 : ByteArray) (r3 : Bool) (w : World) (h : head_Split.f k a0 = some (r1, r2, r3)) :
    Calls Tryz.prog 82 #[.string a0] w fun e w' => e = .returned (.tuple #[.string r1, .string r2, .bool r3]) ∧ Below w.heap.size w w' := by
  have HB := Aside0.mk (Below.refl w.heap.size w)
  have H : (if a0.toList = ([] : List UInt8) then (head_Split.j0 k a0 true) else ((strings_Contains.f a0 (⟨#[0]⟩ : ByteArray)).bind fun t108 => (head_Split.j0 k a0 t108))) = some (r1, r2, r3) := h
  clear h
  have HC2 := Aside0.mk H
  clear H
  go_enter Tryz.func82, Tryz.ntmps82
  go_upto_region 1 with (fail)
  repeat (go_quiet (fail); go_upto_region 1 with (fail))
  go_cut [11] (fun v11 wc => ∃ (kq : Nat) (x11_1 : Bool), v11 = .bool x11_1 ∧ Aside0 (head_Split.j0 kq a0 x11_1 = some (r1, r2, r3)) ∧ Aside0 (kq ≤ k) ∧ Aside0 (Below w.heap.size w wc))
  case first =>
    have H := HC2.out
    clear HC2
    by_cases c3 : a0.toList = ([] : List UInt8)
    · rw [if_pos c3] at H
      have c3b0 : (a0.toList == ([] : List UInt8)) = true := beq_iff_eq.mpr c3
      have c3b1 : (a0.toList != ([] : List UInt8)) = false := bne_eq_false_iff_eq.mpr c3
      clear c3
      (first | rw [c3b0] | (simp only [i64_w, i32_w]; rw [c3b0]) | skip)
      have H' := Aside0.mk H
      clear H
      go_wp2
      repeat (go_quiet (fail); try go_wp2)
      go_meet
      case rel => exact ⟨_, (true), (by first | rfl | (simp; done) | (simp; exact (fun l_ : List UInt8 => (by cases l_ <;> rfl : l_.isEmpty = !(l_ != []))) _) | (simp; exact (fun (x_ : Bool) (l_ : List UInt8) => (by cases x_ <;> cases l_ <;> rfl : (x_ == !l_.isEmpty) = !(x_ != (l_ != [])))) _ _) | (simp [*]; done)), H', ⟨by first | omega | exact Nat.le_refl _⟩, ⟨by repeat (first | (with_reducible first | exact HB.out | apply below_alloc | apply pw_below_drewN | apply below_drew1) | exact HB.out)⟩⟩
    · rw [if_neg c3] at H
      have c3b0 : (a0.toList == ([] : List UInt8)) = false := beq_eq_false_iff_ne.mpr c3
      have c3b1 : (a0.toList != ([] : List UInt8)) = true := bne_iff_ne.mpr c3
      (first | rw [c3b0] | (simp only [i64_w, i32_w]; rw [c3b0]) | skip)
      replace H := Option.bind_eq_some_iff.mp H
      obtain ⟨t108, A40, H⟩ := H
      replace H : (head_Split.j0 k a0 t108) = some (r1, r2, r3) := H
      have A4 := Aside0.mk A40
      clear A40
      have H' := Aside0.mk H
      clear H
      go_wp2_with (first | (go_at_call 58; (with_reducible refine (strings_Contains.calls a0 (⟨#[0]⟩ : ByteArray) t108 _ A4.out).mono ?_); rintro e w5 ⟨rfl, hb⟩; have n0_ := Aside0.mk (below_step (by repeat (first | (with_reducible first | exact HB.out | apply below_alloc | apply pw_below_drewN | apply below_drew1) | exact HB.out)) hb); clear HB; have HB := n0_; clear n0_; (try clear hb); (try clear hb2); (try clear hk); (try clear hi)))
      repeat (go_quiet (first | (go_at_call 58; (with_reducible refine (strings_Contains.calls a0 (⟨#[0]⟩ : ByteArray) t108 _ A4.out).mono ?_); rintro e w5 ⟨rfl, hb⟩; have n0_ := Aside0.mk (below_step (by repeat (first | (with_reducible first | exact HB.out | apply below_alloc | apply pw_below_drewN | apply below_drew1) | exact HB.out)) hb); clear HB; have HB := n0_; clear n0_; (try clear hb); (try clear hb2); (try clear hk); (try clear hi))); try go_wp2_with (first | (go_at_call 58; (with_reducible refine (strings_Contains.calls a0 (⟨#[0]⟩ : ByteArray) t108 _ A4.out).mono ?_); rintro e w5 ⟨rfl, hb⟩; have n0_ := Aside0.mk (below_step (by repeat (first | (with_reducible first | exact HB.out | apply below_alloc | apply pw_below_drewN | apply below_drew1) | exact HB.out)) hb); clear HB; have HB := n0_; clear n0_; (try clear hb); (try clear hb2); (try clear hk); (try clear hi))))
      go_meet
      case rel => exact ⟨_, (t108), (by first | rfl | (simp; done) | (simp; exact (fun l_ : List UInt8 => (by cases l_ <;> rfl : l_.isEmpty = !(l_ != []))) _) | (simp; exact (fun (x_ : Bool) (l_ : List UInt8) => (by cases x_ <;> cases l_ <;> rfl : (x_ == !l_.isEmpty) = !(x_ != (l_ != [])))) _ _) | (simp [*]; done)), H', ⟨by first | omega | exact Nat.le_refl _⟩, ⟨by repeat (first | (with_reducible first | exact HB.out | apply below_alloc | apply pw_below_drewN | apply below_drew1) | exact HB.out)⟩⟩
  case rest =>
    clear HC2
    try clear p2
    try clear c3
    try clear c3b0
    try clear c3b1
    obtain ⟨kq, x11_1, rfl, HA, HJ1, HB⟩ := hcut
    cases kq with
    | zero => exact absurd HA.out (by simp [head_Split.j0])
    | succ kj1 =>
      have H := HA.out
      clear HA
      simp only [head_Split.j0] at H
      by_cases c6 : x11_1 = true
      · subst c6
        have H1 : (some ((⟨#[]⟩ : ByteArray), (⟨#[]⟩ : ByteArray), false)) = some (r1, r2, r3) := by rw [if_pos rfl] at H; exact H
        clear H
        have H := H1
        clear H1
        simp only [Option.some.injEq, Prod.mk.injEq] at H
        obtain ⟨rfl, rfl, rfl⟩ := H
        go_wp2
        repeat (go_quiet (fail); try go_wp2)
        go_ret3
        exact ⟨by first | rfl | (simp [errW_none, errW_some] <;> rfl) | (simp [*, errW_none, errW_some] <;> rfl), by repeat (first | (with_reducible first | exact HB.out | apply below_alloc | apply pw_below_drewN | apply below_drew1) | exact HB.out)⟩
      · replace c6 := Bool.eq_false_iff.mpr c6
        subst c6
        have H1 : (if (a0.size : Int) ≤ 100 then (some ((⟨#[]⟩ : ByteArray), a0, true)) else (head_Split.l0 kj1 a0 (a0.size : Int) 0)) = some (r1, r2, r3) := by rw [if_neg (show ¬ (false = true) by decide)] at H; exact H
        clear H
        have H := H1
        clear H1
        by_cases c7 : (a0.size : Int) ≤ 100
        · rw [if_pos c7] at H
          have c7b0 : decide ((a0.size : Int) ≤ 100) = true := decide_eq_true c7
          have c7b1 : decide (a0.size ≤ 100) = true := decide_eq_true (by omega)
          clear c7
          simp only [Option.some.injEq, Prod.mk.injEq] at H
          obtain ⟨rfl, rfl, rfl⟩ := H
          go_wp2
          repeat (go_quiet (fail); try go_wp2)
          go_ret3
          exact ⟨by first | rfl | (simp [errW_none, errW_some] <;> rfl) | (simp [*, errW_none, errW_some] <;> rfl), by repeat (first | (with_reducible first | exact HB.out | apply below_alloc | apply pw_below_drewN | apply below_drew1) | exact HB.out)⟩
        · rw [if_neg c7] at H
          have c7b0 : decide ((a0.size : Int) ≤ 100) = false := decide_eq_false c7
          have c7b1 : decide (a0.size ≤ 100) = false := decide_eq_false (by omega)
          clear c7
          have H' := Aside0.mk H
          clear H
          go_wp2
          repeat (go_quiet (fail); try go_wp2)
          go_loopg [18] kj1 (fun kq v18 w' => ∃ (x18_2 : Int), v18 = .int .i64 x18_2 ∧ Aside0 (head_Split.l0 kq a0 (a0.size : Int) x18_2 = some (r1, r2, r3)) ∧ Aside0 (kq ≤ kj1) ∧ Aside0 (Below w.heap.size w w'))
          case atStart => exact ⟨(0), (by first | rfl | (simp; done) | (simp; exact (fun l_ : List UInt8 => (by cases l_ <;> rfl : l_.isEmpty = !(l_ != []))) _) | (simp; exact (fun (x_ : Bool) (l_ : List UInt8) => (by cases x_ <;> cases l_ <;> rfl : (x_ == !l_.isEmpty) = !(x_ != (l_ != [])))) _ _) | (simp [*]; done)), H', ⟨Nat.le_refl _⟩, ⟨by repeat (first | (with_reducible first | exact HB.out | apply below_alloc | apply pw_below_drewN | apply below_drew1) | exact HB.out)⟩⟩
          case round =>
            clear H'
            try clear p2
            try clear c3
            try clear c3b0
            try clear c3b1
            try clear c6
            try clear c7
            try clear c7b0
            try clear c7b1
            try clear p2
            obtain ⟨x18_2, rfl, HA, HK2, HB⟩ := hrel
            cases gk with
            | zero => exact absurd HA.out (by simp [head_Split.l0])
            | succ k2 =>
              have H := HA.out
              clear HA
              simp only [head_Split.l0] at H
              by_cases c8 : x18_2 < (a0.size : Int)
              · rw [if_pos c8] at H
                have c8b0 : decide (x18_2 < (a0.size : Int)) = true := decide_eq_true c8
                clear c8
                have HC9 := Aside0.mk H
                clear H
                go_upto_region 8 with (fail)
                repeat (go_quiet (fail); go_upto_region 8 with (fail))
                go_cut [43] (fun v43 wc => ∃ (kq : Nat) (x43_8 : Bool), v43 = .bool x43_8 ∧ Aside0 (head_Split.j2 kq a0 x18_2 (a0.size : Int) x18_2 x43_8 = some (r1, r2, r3)) ∧ Aside0 (kq ≤ k2) ∧ Aside0 (Below w.heap.size w wc))
                case first =>
                  have H := HC9.out
                  clear HC9
                  by_cases c10 : 0 ≤ x18_2
                  · rw [if_pos c10] at H
                    have c10b0 : decide (0 ≤ x18_2) = true := decide_eq_true c10
                    clear c10
                    (first | rw [c10b0] | (simp only [i64_w, i32_w]; rw [c10b0]) | skip)
                    by_cases c11 : x18_2 < (a0.size : Int)
                    · rw [if_pos c11] at H
                      have c11b0 : decide (x18_2 < (a0.size : Int)) = true := decide_eq_true c11
                      clear c11
                      by_cases c13 : (bt a0 x18_2) = 47
                      · rw [if_pos c13] at H
                        have c13b0 : ((bt a0 x18_2) == 47) = true := beq_iff_eq.mpr c13
                        have c13b1 : ((bt a0 x18_2) != 47) = false := bne_eq_false_iff_eq.mpr c13
                        clear c13
                        by_cases c14 : x18_2 = 0
                        · rw [if_pos c14] at H
                          have c14b0 : (x18_2 == 0) = true := beq_iff_eq.mpr c14
                          have c14b1 : (x18_2 != 0) = false := bne_eq_false_iff_eq.mpr c14
                          clear c14
                          have H' := Aside0.mk H
                          clear H
                          have p12 : 0 ≤ (x18_2 : Int) := of_decide_eq_true (by first | (with_reducible assumption) | assumption)
                          have q12 : x18_2 < (a0.size : Int) := of_decide_eq_true (by first | (with_reducible assumption) | assumption)
                          have hx12 := bt_at a0 x18_2
                          replace p12 := eq_true p12
                          replace q12 := eq_true q12
                          go_wp2
                          repeat (go_quiet (fail); try go_wp2)
                          go_meet
                          case rel => exact ⟨_, (true), (by first | rfl | (simp; done) | (simp; exact (fun l_ : List UInt8 => (by cases l_ <;> rfl : l_.isEmpty = !(l_ != []))) _) | (simp; exact (fun (x_ : Bool) (l_ : List UInt8) => (by cases x_ <;> cases l_ <;> rfl : (x_ == !l_.isEmpty) = !(x_ != (l_ != [])))) _ _) | (simp [*]; done)), H', ⟨by have := HJ1.out; have := HK2.out; first | omega | exact Nat.le_refl _⟩, ⟨by repeat (first | (with_reducible first | exact HB.out | apply below_alloc | apply pw_below_drewN | apply below_drew1) | exact HB.out)⟩⟩
                        · rw [if_neg c14] at H
                          have c14b0 : (x18_2 == 0) = false := beq_eq_false_iff_ne.mpr c14
                          have c14b1 : (x18_2 != 0) = true := bne_iff_ne.mpr c14
                          by_cases c15 : (wrap64 ((wrap64 ((a0.size : Int) - x18_2)) - 1)) > 100
                          · rw [if_pos c15] at H
                            have c15b0 : decide (100 < (wrap64 ((wrap64 ((a0.size : Int) - x18_2)) - 1))) = true := decide_eq_true c15
                            clear c15
                            have H' := Aside0.mk H
                            clear H
                            have p12 : 0 ≤ (x18_2 : Int) := of_decide_eq_true (by first | (with_reducible assumption) | assumption)
                            have q12 : x18_2 < (a0.size : Int) := of_decide_eq_true (by first | (with_reducible assumption) | assumption)
                            have hx12 := bt_at a0 x18_2
                            replace p12 := eq_true p12
                            replace q12 := eq_true q12
                            go_wp2
                            repeat (go_quiet (fail); try go_wp2)
                            go_meet
                            case rel => exact ⟨_, (true), (by first | rfl | (simp; done) | (simp; exact (fun l_ : List UInt8 => (by cases l_ <;> rfl : l_.isEmpty = !(l_ != []))) _) | (simp; exact (fun (x_ : Bool) (l_ : List UInt8) => (by cases x_ <;> cases l_ <;> rfl : (x_ == !l_.isEmpty) = !(x_ != (l_ != [])))) _ _) | (simp [*]; done)), H', ⟨by have := HJ1.out; have := HK2.out; first | omega | exact Nat.le_refl _⟩, ⟨by repeat (first | (with_reducible first | exact HB.out | apply below_alloc | apply pw_below_drewN | apply below_drew1) | exact HB.out)⟩⟩
                          · rw [if_neg c15] at H
                            have c15b0 : decide (100 < (wrap64 ((wrap64 ((a0.size : Int) - x18_2)) - 1))) = false := decide_eq_false c15
                            clear c15
                            have H' := Aside0.mk H
                            clear H
                            have p12 : 0 ≤ (x18_2 : Int) := of_decide_eq_true (by first | (with_reducible assumption) | assumption)
                            have q12 : x18_2 < (a0.size : Int) := of_decide_eq_true (by first | (with_reducible assumption) | assumption)
                            have hx12 := bt_at a0 x18_2
                            replace p12 := eq_true p12
                            replace q12 := eq_true q12
                            go_wp2
                            repeat (go_quiet (fail); try go_wp2)
                            go_meet
                            case rel => exact ⟨_, ((x18_2 == (wrap64 ((a0.size : Int) - 1)))), (by first | rfl | (simp; done) | (simp; exact (fun l_ : List UInt8 => (by cases l_ <;> rfl : l_.isEmpty = !(l_ != []))) _) | (simp; exact (fun (x_ : Bool) (l_ : List UInt8) => (by cases x_ <;> cases l_ <;> rfl : (x_ == !l_.isEmpty) = !(x_ != (l_ != [])))) _ _) | (simp [*]; done)), H', ⟨by have := HJ1.out; have := HK2.out; first | omega | exact Nat.le_refl _⟩, ⟨by repeat (first | (with_reducible first | exact HB.out | apply below_alloc | apply pw_below_drewN | apply below_drew1) | exact HB.out)⟩⟩
                      · rw [if_neg c13] at H
                        have c13b0 : ((bt a0 x18_2) == 47) = false := beq_eq_false_iff_ne.mpr c13
                        have c13b1 : ((bt a0 x18_2) != 47) = true := bne_iff_ne.mpr c13
                        have H' := Aside0.mk H
                        clear H
                        have p12 : 0 ≤ (x18_2 : Int) := of_decide_eq_true (by first | (with_reducible assumption) | assumption)
                        have q12 : x18_2 < (a0.size : Int) := of_decide_eq_true (by first | (with_reducible assumption) | assumption)
                        have hx12 := bt_at a0 x18_2
                        replace p12 := eq_true p12
                        replace q12 := eq_true q12
                        go_wp2
                        repeat (go_quiet (fail); try go_wp2)
                        go_meet
                        case rel => exact ⟨_, (true), (by first | rfl | (simp; done) | (simp; exact (fun l_ : List UInt8 => (by cases l_ <;> rfl : l_.isEmpty = !(l_ != []))) _) | (simp; exact (fun (x_ : Bool) (l_ : List UInt8) => (by cases x_ <;> cases l_ <;> rfl : (x_ == !l_.isEmpty) = !(x_ != (l_ != [])))) _ _) | (simp [*]; done)), H', ⟨by have := HJ1.out; have := HK2.out; first | omega | exact Nat.le_refl _⟩, ⟨by repeat (first | (with_reducible first | exact HB.out | apply below_alloc | apply pw_below_drewN | apply below_drew1) | exact HB.out)⟩⟩
                    · rw [if_neg c11] at H
                      exact absurd H (by simp)
                  · rw [if_neg c10] at H
                    exact absurd H (by simp)
                case rest =>
                  clear HC9
                  try clear c1
                  try clear p1
                  try clear q1
                  try clear hx1
                  try clear p2
                  try clear c3
                  try clear c3b0
                  try clear c3b1
                  try clear c6
                  try clear p6
                  try clear c7
                  try clear c7b0
                  try clear c7b1
                  try clear c8
                  try clear c8b0
                  try clear c10
                  try clear c10b0
                  try clear c11
                  try clear c11b0
                  try clear p12
                  try clear q12
                  try clear hx12
                  try clear c13
                  try clear c13b0
                  try clear c13b1
                  try clear c14
                  try clear c14b0
                  try clear c14b1
                  try clear c15
                  try clear c15b0
                  try clear p12
                  try clear p2
                  try clear q12
                  obtain ⟨kq, x43_8, rfl, HA, HJ8, HB⟩ := hcut
                  cases kq with
                  | zero => exact absurd HA.out (by simp [head_Split.j2])
                  | succ kj8 =>
                    have H := HA.out
                    clear HA
                    simp only [head_Split.j2] at H
                    by_cases c16 : x43_8 = true
                    · subst c16
                      have H1 : (head_Split.l0 kj8 a0 (a0.size : Int) (wrap64 (x18_2 + 1))) = some (r1, r2, r3) := by rw [if_pos rfl] at H; exact H
                      clear H
                      have H := H1
                      clear H1
                      have H' := Aside0.mk H
                      clear H
                      go_wp2
                      repeat (go_quiet (fail); try go_wp2)
                      go_roundg kj8
                      case measure => have := HJ1.out; have := HK2.out; have := HJ8.out; omega
                      case rel => exact ⟨(wrap64 (x18_2 + 1)), (by first | rfl | (simp; done) | (simp; exact (fun l_ : List UInt8 => (by cases l_ <;> rfl : l_.isEmpty = !(l_ != []))) _) | (simp; exact (fun (x_ : Bool) (l_ : List UInt8) => (by cases x_ <;> cases l_ <;> rfl : (x_ == !l_.isEmpty) = !(x_ != (l_ != [])))) _ _) | (simp [*]; done)), H', ⟨by have := HJ1.out; have := HK2.out; have := HJ8.out; omega⟩, ⟨by repeat (first | (with_reducible first | exact HB.out | apply below_alloc | apply pw_below_drewN | apply below_drew1) | exact HB.out)⟩⟩
                    · replace c16 := Bool.eq_false_iff.mpr c16
                      subst c16
                      have H1 : (if x18_2 > 155 then (some ((⟨#[]⟩ : ByteArray), (⟨#[]⟩ : ByteArray), false)) else (if 0 ≤ x18_2 then (if x18_2 ≤ (a0.size : Int) then (if 0 ≤ (wrap64 (x18_2 + 1)) then (if (wrap64 (x18_2 + 1)) ≤ (a0.size : Int) then (some (a0.extract 0 (x18_2 : Int).toNat, a0.extract ((wrap64 (x18_2 + 1)) : Int).toNat a0.size, true)) else (none)) else (none)) else (none)) else (none))) = some (r1, r2, r3) := by rw [if_neg (show ¬ (false = true) by decide)] at H; exact H
                      clear H
                      have H := H1
                      clear H1
                      by_cases c17 : x18_2 > 155
                      · rw [if_pos c17] at H
                        have c17b0 : decide (155 < x18_2) = true := decide_eq_true c17
                        clear c17
                        simp only [Option.some.injEq, Prod.mk.injEq] at H
                        obtain ⟨rfl, rfl, rfl⟩ := H
                        go_wp2
                        repeat (go_quiet (fail); try go_wp2)
                        go_ret3
                        exact ⟨by first | rfl | (simp [errW_none, errW_some] <;> rfl) | (simp [*, errW_none, errW_some] <;> rfl), by repeat (first | (with_reducible first | exact HB.out | apply below_alloc | apply pw_below_drewN | apply below_drew1) | exact HB.out)⟩
                      · rw [if_neg c17] at H
                        have c17b0 : decide (155 < x18_2) = false := decide_eq_false c17
                        clear c17
                        by_cases c18 : 0 ≤ x18_2
                        · rw [if_pos c18] at H
                          have c18b0 := eq_true c18
                          have c18b1 : decide (0 ≤ x18_2) = true := decide_eq_true c18
                          clear c18
                          by_cases c19 : x18_2 ≤ (a0.size : Int)
                          · rw [if_pos c19] at H
                            have c19b0 := eq_true c19
                            have c19b1 : decide (x18_2 ≤ (a0.size : Int)) = true := decide_eq_true c19
                            clear c19
                            obtain ⟨ji20, hji20⟩ : ∃ j_ : Int, (wrap64 (x18_2 + 1)) = j_ := ⟨_, rfl⟩
                            replace H : (if 0 ≤ (ji20) then (if (ji20) ≤ (a0.size : Int) then (some (a0.extract 0 (x18_2 : Int).toNat, a0.extract ((ji20) : Int).toNat a0.size, true)) else (none)) else (none)) = some (r1, r2, r3) := by first | (rw [hji20] at H; exact H) | (simp only [hji20] at H ⊢; exact H)
                            have hji20w : (IntKind.i64.wrap (x18_2 + 1)) = ji20 := (i64_w _).trans hji20
                            by_cases c21 : 0 ≤ (ji20)
                            · rw [if_pos c21] at H
                              have c21b0 := eq_true c21
                              have c21b1 : decide (0 ≤ (ji20)) = true := decide_eq_true c21
                              clear c21
                              by_cases c22 : (ji20) ≤ (a0.size : Int)
                              · rw [if_pos c22] at H
                                have c22b0 := eq_true c22
                                have c22b1 : decide ((ji20) ≤ (a0.size : Int)) = true := decide_eq_true c22
                                clear c22
                                simp only [Option.some.injEq, Prod.mk.injEq] at H
                                obtain ⟨rfl, rfl, rfl⟩ := H
                                go_wp2
                                repeat (go_quiet (fail); try go_wp2)
                                go_ret3
                                exact ⟨by first | rfl | (simp [errW_none, errW_some] <;> rfl) | (simp only [← hji20]; first | rfl | (simp [errW_none, errW_some] <;> rfl)) | (simp [*, errW_none, errW_some] <;> rfl), by repeat (first | (with_reducible first | exact HB.out | apply below_alloc | apply pw_below_drewN | apply below_drew1) | exact HB.out)⟩
                              · rw [if_neg c22] at H
                                exact absurd H (by simp)
                            · rw [if_neg c21] at H
                              exact absurd H (by simp)
                          · rw [if_neg c19] at H
                            exact absurd H (by simp)
                        · rw [if_neg c18] at H
                          exact absurd H (by simp)
              · rw [if_neg c8] at H
                have c8b0 : decide (x18_2 < (a0.size : Int)) = false := decide_eq_false c8
                clear c8
                simp only [Option.some.injEq, Prod.mk.injEq] at H
                obtain ⟨rfl, rfl, rfl⟩ := H
                go_wp2
                repeat (go_quiet (fail); try go_wp2)
                go_ret3
                exact ⟨by first | rfl | (simp [errW_none, errW_some] <;> rfl) | (simp [*, errW_none, errW_some] <;> rfl), by repeat (first | (with_reducible first | exact HB.out | apply below_alloc | apply pw_below_drewN | apply below_drew1) | exact HB.out)⟩

/-! ### kind_Type: function 81 -/
def kind_Type.f (a0 : Int) : Option (Int) := if a0 = 1 then (some 48) else (if a0 = 2 then (some 49) else (if a0 = 3 then (some 50) else (if a0 = 4 then (some 53) else (some 0))))
set_option maxHeartbeats 8000000 in
set_option maxRecDepth 100000 in
theorem kind_Type.calls (a0 : Int) (r : Int) (w : World) (h : kind_Type.f a0 = some r) :
    Calls Tryz.prog 81 #[.int .i64 a0] w fun e w' => e = .returned (.int .u8 r) ∧ Drawn0 w w' := by
  have H : (if a0 = 1 then (some 48) else (if a0 = 2 then (some 49) else (if a0 = 3 then (some 50) else (if a0 = 4 then (some 53) else (some 0))))) = some r := h
  clear h
  by_cases c2 : a0 = 1
  · rw [if_pos c2] at H
    have c2b0 : (a0 == 1) = true := beq_iff_eq.mpr c2
    have c2b1 : (a0 != 1) = false := bne_eq_false_iff_eq.mpr c2
    clear c2
    obtain rfl := Option.some.inj H
    go_enter Tryz.func81, Tryz.ntmps81
    go_wp2
    go_ret
    exact ⟨by first | rfl | (simp; done) | (simp [*]; done), by repeat (first | exact Drawn0.refl _ | apply Drawn0.step)⟩
  · rw [if_neg c2] at H
    have c2b0 : (a0 == 1) = false := beq_eq_false_iff_ne.mpr c2
    have c2b1 : (a0 != 1) = true := bne_iff_ne.mpr c2
    by_cases c3 : a0 = 2
    · rw [if_pos c3] at H
      have c3b0 : (a0 == 2) = true := beq_iff_eq.mpr c3
      have c3b1 : (a0 != 2) = false := bne_eq_false_iff_eq.mpr c3
      clear c3
      obtain rfl := Option.some.inj H
      go_enter Tryz.func81, Tryz.ntmps81
      go_wp2
      go_ret
      exact ⟨by first | rfl | (simp; done) | (simp [*]; done), by repeat (first | exact Drawn0.refl _ | apply Drawn0.step)⟩
    · rw [if_neg c3] at H
      have c3b0 : (a0 == 2) = false := beq_eq_false_iff_ne.mpr c3
      have c3b1 : (a0 != 2) = true := bne_iff_ne.mpr c3
      by_cases c4 : a0 = 3
      · rw [if_pos c4] at H
        have c4b0 : (a0 == 3) = true := beq_iff_eq.mpr c4
        have c4b1 : (a0 != 3) = false := bne_eq_false_iff_eq.mpr c4
        clear c4
        obtain rfl := Option.some.inj H
        go_enter Tryz.func81, Tryz.ntmps81
        go_wp2
        go_ret
        exact ⟨by first | rfl | (simp; done) | (simp [*]; done), by repeat (first | exact Drawn0.refl _ | apply Drawn0.step)⟩
      · rw [if_neg c4] at H
        have c4b0 : (a0 == 3) = false := beq_eq_false_iff_ne.mpr c4
        have c4b1 : (a0 != 3) = true := bne_iff_ne.mpr c4
        by_cases c5 : a0 = 4
        · rw [if_pos c5] at H
          have c5b0 : (a0 == 4) = true := beq_iff_eq.mpr c5
          have c5b1 : (a0 != 4) = false := bne_eq_false_iff_eq.mpr c5
          clear c5
          obtain rfl := Option.some.inj H
          go_enter Tryz.func81, Tryz.ntmps81
          go_wp2
          go_ret
          exact ⟨by first | rfl | (simp; done) | (simp [*]; done), by repeat (first | exact Drawn0.refl _ | apply Drawn0.step)⟩
        · rw [if_neg c5] at H
          have c5b0 : (a0 == 4) = false := beq_eq_false_iff_ne.mpr c5
          have c5b1 : (a0 != 4) = true := bne_iff_ne.mpr c5
          obtain rfl := Option.some.inj H
          go_enter Tryz.func81, Tryz.ntmps81
          go_wp2
          go_ret
          exact ⟨by first | rfl | (simp; done) | (simp [*]; done), by repeat (first | exact Drawn0.refl _ | apply Drawn0.step)⟩

end Go.Proofs.YtpbpfngichfgeaaGreatDoor.POct

namespace Go.Proofs.YtpbpfngichfgeaaGreatDoor
set_option linter.unusedVariables false
set_option linter.unusedSimpArgs false
open Go Go.RowKit Go.Proofs.YtpbpfngichfgeaaGreatDoorW.PrintWords Go.Proofs.YtpbpfngichfgeaaGreatDoorW.PrintLast Go.Proofs.YtpbpfngichfgeaaGreatDoorW.PrintMore

/-- So many octal digits of a number, and a byte 0. -/
def octD : Nat → Int → List Int
  | 0, _ => []
  | d + 1, n => octD d (n / 8) ++ [48 + n % 8]
def octL (n : Int) (w : Nat) : List Int := octD (w - 1) n ++ [0]
theorem octD_length : ∀ d n, (octD d n).length = d
  | 0, _ => rfl
  | d + 1, n => by simp [octD, octD_length d]
theorem octL_length (n : Int) {w : Nat} (h : 1 ≤ w) : (octL n w).length = w := by simp [octL, octD_length]; omega
theorem octD_range : ∀ d n, ∀ x ∈ octD d n, 48 ≤ x ∧ x < 56
  | 0, _ => by simp [octD]
  | d + 1, n => by
    intro x hx
    rcases List.mem_append.1 hx with h | h
    · exact octD_range d _ x h
    · rw [List.mem_singleton.1 h]; omega
theorem octL_range (n : Int) (w : Nat) : ∀ x ∈ octL n w, 0 ≤ x ∧ x < 256 := by
  intro x hx
  rcases List.mem_append.1 hx with h | h
  · have := octD_range _ _ x h; omega
  · rw [List.mem_singleton.1 h]; omega
/-- May a number stand in a field? -/
def octFits (n : Int) (w : Nat) : Prop := 0 ≤ n ∧ n < 8 ^ (w - 1)
theorem digits_l0 (K : Nat) : ∀ (d : Nat) (n : Int) (x : Int), 0 ≤ n → n < 8 ^ (d + 1) → 1 ≤ x → x + d ≤ 1000 → n ≤ 9223372036854775807 → ∃ r, POct.octal_digits.l0 (d + 1 + K) n x = some r ∧ r ≤ x + d
  | 0, n, x, h0, h1, hx, hxd, hm => by
    refine ⟨x, ?_, by omega⟩
    have e : 0 + 1 + K = K + 1 := by omega
    rw [e]
    simp only [POct.octal_digits.l0]
    rw [if_neg (by simp at h1; omega)]
  | d + 1, n, x, h0, h1, hx, hxd, hm => by
    have e : d + 1 + 1 + K = (d + 1 + K) + 1 := by omega
    rw [e]
    simp only [POct.octal_digits.l0]
    by_cases h8 : n ≥ 8
    · rw [if_pos h8]
      have ht : Int.tdiv n 8 = n / 8 := Int.tdiv_eq_ediv_of_nonneg h0
      have hw : wrap64 (Int.tdiv n 8) = n / 8 := by rw [ht]; unfold wrap64; omega
      have hw2 : wrap64 (x + 1) = x + 1 := by unfold wrap64; omega
      have hp : n / 8 < 8 ^ (d + 1) := by
        have : (8 : Int) ^ (d + 1 + 1) = 8 ^ (d + 1) * 8 := Int.pow_succ _ _
        omega
      obtain ⟨r, hr, hle⟩ := digits_l0 K d (n / 8) (x + 1) (by omega) hp (by omega) (by omega) (by omega)
      exact ⟨r, by rw [hw, hw2]; exact hr, by omega⟩
    · exact ⟨x, by rw [if_neg h8], by omega⟩
theorem digits_spec (K : Nat) : ∀ (d : Nat) (n : Int) (x : Int), 0 ≤ n → n < 8 ^ (d + 1) → 1 ≤ x → x + d ≤ 1000 → n ≤ 9223372036854775807 → ∃ r : Nat, 1 ≤ r ∧ POct.octal_digits.l0 (d + 1 + K) n x = some (x - 1 + r) ∧ ∀ e : Nat, 1 ≤ e → (r ≤ e ↔ n < 8 ^ e)
  | 0, n, x, h0, h1, hx, hxd, hm => by
    refine ⟨1, Nat.le_refl _, ?_, fun e he => ⟨fun _ => ?_, fun _ => he⟩⟩
    · have e : 0 + 1 + K = K + 1 := by omega
      rw [e]
      simp only [POct.octal_digits.l0]
      rw [if_neg (by simp at h1; omega)]
      simp
    · obtain ⟨e, rfl⟩ : ∃ q, e = q + 1 := ⟨e - 1, by omega⟩
      have : (1 : Int) ≤ 8 ^ e := Int.pow_pos (by decide)
      have h8 : (8 : Int) ^ (e + 1) = 8 ^ e * 8 := Int.pow_succ _ _
      simp at h1
      omega
  | d + 1, n, x, h0, h1, hx, hxd, hm => by
    have e : d + 1 + 1 + K = (d + 1 + K) + 1 := by omega
    rw [e]
    simp only [POct.octal_digits.l0]
    by_cases h8 : n ≥ 8
    · rw [if_pos h8]
      have ht : Int.tdiv n 8 = n / 8 := Int.tdiv_eq_ediv_of_nonneg h0
      have hw : wrap64 (Int.tdiv n 8) = n / 8 := by rw [ht]; unfold wrap64; omega
      have hw2 : wrap64 (x + 1) = x + 1 := by unfold wrap64; omega
      have hp : n / 8 < 8 ^ (d + 1) := by
        have : (8 : Int) ^ (d + 1 + 1) = 8 ^ (d + 1) * 8 := Int.pow_succ _ _
        omega
      obtain ⟨r, hr1, hr, hle⟩ := digits_spec K d (n / 8) (x + 1) (by omega) hp (by omega) (by omega) (by omega)
      refine ⟨r + 1, by omega, by rw [hw, hw2, hr]; congr 1; omega, fun e he => ?_⟩
      obtain ⟨q, rfl⟩ : ∃ q, e = q + 1 := ⟨e - 1, by omega⟩
      have hs : (8 : Int) ^ (q + 1) = 8 ^ q * 8 := Int.pow_succ _ _
      rcases Nat.eq_zero_or_pos q with h | h
      · subst h
        simp at hs
        constructor
        · intro; omega
        · intro; omega
      · have := hle q h
        constructor
        · intro h2; have := this.1 (by omega); omega
        · intro h2; have := this.2 (by omega); omega
    · refine ⟨1, Nat.le_refl _, by rw [if_neg h8]; simp, fun e he => ⟨fun _ => ?_, fun _ => he⟩⟩
      obtain ⟨q, rfl⟩ : ∃ q, e = q + 1 := ⟨e - 1, by omega⟩
      have : (1 : Int) ≤ 8 ^ q := Int.pow_pos (by decide)
      have hs : (8 : Int) ^ (q + 1) = 8 ^ q * 8 := Int.pow_succ _ _
      omega
def fitsN (n : Int) (w : Nat) : Bool := decide (0 ≤ n ∧ n < 8 ^ (w - 1))
theorem fits_n (n : Int) (w : Nat) (h2 : 2 ≤ w) (hm : n ≤ 9223372036854775807) : ∃ k, POct.octal_Fits.f k n (w : Int) = some (fitsN n w) := by
  refine ⟨22, ?_⟩
  unfold POct.octal_Fits.f POct.octal_digits.f fitsN
  by_cases h0 : 0 ≤ n
  · rw [if_pos h0, if_pos (by omega)]
    have h22 : n < 8 ^ (21 + 1) := by
      have e : (8 : Int) ^ (21 + 1) = 73786976294838206464 := by decide
      omega
    obtain ⟨r, hr1, hr, hle⟩ := digits_spec 0 21 n 1 h0 h22 (by decide) (by decide) hm
    have hr' : POct.octal_digits.l0 22 n 1 = some (1 - 1 + (r : Int)) := hr
    rw [hr']
    simp only [Option.bind_some]
    congr 1
    have := hle (w - 1) (by omega)
    rw [decide_eq_decide]
    constructor
    · intro h; exact ⟨h0, this.1 (by omega)⟩
    · intro h; have := this.2 h.2; omega
  · rw [if_neg (by omega)]
    congr 1
    have : ¬ (0 ≤ n ∧ n < 8 ^ (w - 1)) := fun h => h0 h.1
    simp [this]
theorem format_l0 (K : Nat) : ∀ (d : Nat) (n : Int) (pre suf : List Int), pre.length = d → 0 ≤ n → n ≤ 9223372036854775807 → d ≤ 100 →
    POct.octal_Format.l0 (d + 1 + K) n (pre ++ suf) (((d : Nat) : Int) - 1) = some (octD d n ++ suf, 0)
  | 0, n, pre, suf, hl, h0, hm, hd => by
    obtain rfl : pre = [] := List.length_eq_zero_iff.1 hl
    have e : 0 + 1 + K = K + 1 := by omega
    rw [e]
    simp only [POct.octal_Format.l0]
    rw [if_neg (by omega)]
    rfl
  | d + 1, n, pre, suf, hl, h0, hm, hd => by
    have e : d + 1 + 1 + K = (d + 1 + K) + 1 := by omega
    rw [e]
    simp only [POct.octal_Format.l0]
    obtain ⟨p, y, rfl⟩ : ∃ p y, pre = p ++ [y] := ⟨pre.dropLast, pre.getLast (by intro h; subst h; simp at hl), (List.dropLast_concat_getLast _).symm⟩
    have hp : p.length = d := by simp at hl; omega
    have ei : (((d + 1 : Nat) : Int) - 1) = (d : Nat) := by omega
    rw [ei, if_pos (by omega), if_pos (by omega), if_pos (by simp; omega)]
    have ht : Int.tdiv n 8 = n / 8 := Int.tdiv_eq_ediv_of_nonneg h0
    have hw : wrap64 (Int.tdiv n 8) = n / 8 := by rw [ht]; unfold wrap64; omega
    have hw2 : wrap64 ((d : Int) - 1) = (d : Int) - 1 := by unfold wrap64; omega
    have hq : (wrap64 (48 + Int.tmod n 8)) % 256 = 48 + n % 8 := by rw [Int.tmod_eq_emod_of_nonneg h0]; unfold wrap64; omega
    have hs : ((p ++ [y]) ++ suf).set d (48 + n % 8) = p ++ ((48 + n % 8) :: suf) := by
      rw [List.append_assoc, List.set_append]
      simp [hp]
    rw [hw, hw2, hq, Int.toNat_natCast, hs]
    have := format_l0 K d (n / 8) p ((48 + n % 8) :: suf) hp (by omega) (by omega) (by omega)
    rw [this]
    simp [octD, List.append_assoc]
theorem format_ok (n : Int) (w : Nat) (h2 : 2 ≤ w) (h24 : w ≤ 24) (hf : octFits n w) (hm : n ≤ 9223372036854775807) : ∃ k, POct.octal_Format.f k n (w : Int) = some (octL n w, 0) := by
  obtain ⟨h0, h1⟩ := hf
  refine ⟨w + 2, ?_⟩
  unfold POct.octal_Format.f
  rw [if_neg (by omega)]
  have hd : decide ((w : Int) > 24) = false := by simp; omega
  rw [hd]
  have e1 : w + 2 = (w + 1) + 1 := by omega
  rw [e1]
  simp only [POct.octal_Format.j0, Bool.false_eq_true, if_false]
  obtain ⟨r, hr, hle⟩ := digits_l0 2 (w - 2) n 1 h0 (by have : w - 2 + 1 = w - 1 := by omega
                                                        rw [this]; exact h1) (by omega) (by omega) hm
  have hr' : POct.octal_digits.l0 (w + 1) n 1 = some r := by
    have : w - 2 + 1 + 2 = w + 1 := by omega
    rw [← this]; exact hr
  have hft : POct.octal_Fits.f (w + 1) n (w : Int) = some true := by
    unfold POct.octal_Fits.f POct.octal_digits.f
    rw [if_pos (by omega), if_pos (by omega), hr']
    simp
    omega
  rw [hft]
  simp only [Option.bind_some, if_true]
  rw [if_pos (by omega), if_pos (by omega)]
  have hl := format_l0 1 (w - 1) n (List.replicate (w - 1) 0) [0] (by simp) h0 hm (by omega)
  have e2 : w - 1 + 1 + 1 = w + 1 := by omega
  have e3 : List.replicate (w - 1) (0 : Int) ++ [0] = List.replicate w 0 := by
    rw [← List.replicate_succ']
    congr 1
    omega
  have e4 : (((w - 1 : Nat) : Int) - 1) = wrap64 ((w : Int) - 2) := by unfold wrap64; omega
  rw [e2, e3, e4] at hl
  rw [Int.toNat_natCast, hl]
  rfl
end Go.Proofs.YtpbpfngichfgeaaGreatDoor
