-- Printed by a program of ours (wip/print2).
import Derived.Test.YtpbpfngichfgeaaGreatDoorFedExt
import Derived.Test.YtpbpfngichfgeaaGreatDoorPFedx0
import Derived.Test.YtpbpfngichfgeaaGreatDoorPFedx2
namespace Go.Proofs.YtpbpfngichfgeaaGreatDoor.PFed
open Go.RowKit Go.Proofs.YtpbpfngichfgeaaGreatDoorW.PrintWords Go.Proofs.YtpbpfngichfgeaaGreatDoorW.PrintLast Go.Proofs.YtpbpfngichfgeaaGreatDoorW.PrintMore
attribute [local go_sem] max2_int min2_int max_two min_two max_three min_three max_four min_four   -- for this text's walks alone
set_option linter.unusedVariables false
set_option linter.unusedSimpArgs false

/-! ### pannierlaw12_PushPieces: function 5 -/
mutual
def pannierlaw12_PushPieces.j0 : Nat → List Int → List Int → List Int → Bool → Option (Bool)
  | 0, _, _, _, _ => none
  | k + 1, x0, x1, x2, x27 => if x27 = true then (some true) else ((pannierlaw12_fed.f x0 ([] : List Int)).bind fun bt106 => ((pannierlaw12_fed.f x0 x2).bind fun bt114 => (if bt106.2.2.2.2 = true then (if bt114.2.2.2.2 = true then ((pannierlaw12_same.f k bt106.1 bt106.2.1 bt106.2.2.1 bt106.2.2.2.1 bt114.1 bt114.2.1 bt114.2.2.1 bt114.2.2.2.1).bind fun t122 => (pannierlaw12_PushPieces.j1 k x0 x1 x2 (!t122) bt106.1 bt106.2.1 bt106.2.2.1 bt106.2.2.2.1)) else (pannierlaw12_PushPieces.j1 k x0 x1 x2 true bt106.1 bt106.2.1 bt106.2.2.1 bt106.2.2.2.1)) else (pannierlaw12_PushPieces.j1 k x0 x1 x2 true bt106.1 bt106.2.1 bt106.2.2.1 bt106.2.2.2.1))))
def pannierlaw12_PushPieces.j1 : Nat → List Int → List Int → List Int → Bool → List (S57) → Bool → Int → Int → Option (Bool)
  | 0, _, _, _, _, _, _, _, _ => none
  | k + 1, x0, x1, x2, x50, x114000, x114001, x114002, x114003 => if x50 = true then (some false) else (if x114001 = true then (pannierlaw12_PushPieces.j2 k x0 x1 x2 false x114000 x114001 x114002 x114003) else (pannierlaw12_PushPieces.j2 k x0 x1 x2 (x114002 == 5) x114000 x114001 x114002 x114003))
def pannierlaw12_PushPieces.j2 : Nat → List Int → List Int → List Int → Bool → List (S57) → Bool → Int → Int → Option (Bool)
  | 0, _, _, _, _, _, _, _, _ => none
  | k + 1, x0, x1, x2, x58, x114000, x114001, x114002, x114003 => if x58 = true then (some true) else ((some (([] : List Int) : List Int)).bind fun y123 => (if y123.length + x0.length < 140737488355328 then ((some (y123 ++ x0 : List Int)).bind fun y126 => (if y126.length + x1.length < 140737488355328 then ((pannierlaw12_fed.f (y126 ++ x1) x2).bind fun bt132 => (if bt132.2.2.2.2 = true then ((pannierlaw12_same.f k x114000 x114001 x114002 x114003 bt132.1 bt132.2.1 bt132.2.2.1 bt132.2.2.2.1).bind fun t140 => (some t140)) else (some false))) else (none))) else (none)))
end
def pannierlaw12_PushPieces.f (k : Nat) (l0 : List Int) (l1 : List Int) (l2 : List Int) : Option (Bool) := (pannierlaw12_reads.f).bind fun t105 => (if t105 = true then (if (l0.length : Int) > 20000 then (pannierlaw12_PushPieces.j0 k l0 l1 l2 true) else (if (l1.length : Int) > 2000 then (pannierlaw12_PushPieces.j0 k l0 l1 l2 true) else (pannierlaw12_PushPieces.j0 k l0 l1 l2 (decide ((l2.length : Int) > 200))))) else (some false))
theorem pannierlaw12_PushPieces.mono_l : ∀ k, (∀ y0 y1 y2 y3, LeO (pannierlaw12_PushPieces.j0 k y0 y1 y2 y3) (pannierlaw12_PushPieces.j0 (k + 1) y0 y1 y2 y3)) ∧ (∀ y0 y1 y2 y3 y4 y5 y6 y7, LeO (pannierlaw12_PushPieces.j1 k y0 y1 y2 y3 y4 y5 y6 y7) (pannierlaw12_PushPieces.j1 (k + 1) y0 y1 y2 y3 y4 y5 y6 y7)) ∧ (∀ y0 y1 y2 y3 y4 y5 y6 y7, LeO (pannierlaw12_PushPieces.j2 k y0 y1 y2 y3 y4 y5 y6 y7) (pannierlaw12_PushPieces.j2 (k + 1) y0 y1 y2 y3 y4 y5 y6 y7))
  | 0 => ⟨fun _ _ _ _ r h => by simp [pannierlaw12_PushPieces.j0] at h, fun _ _ _ _ _ _ _ _ r h => by simp [pannierlaw12_PushPieces.j1] at h, fun _ _ _ _ _ _ _ _ r h => by simp [pannierlaw12_PushPieces.j2] at h⟩
  | k + 1 => by
    obtain ⟨ih0, ih1, ih2⟩ := pannierlaw12_PushPieces.mono_l k
    refine ⟨?_, ?_, ?_⟩
    · intro y0 y1 y2 y3
      unfold pannierlaw12_PushPieces.j0
      repeat' first
      | (with_reducible exact ih0 _ _ _ _)
      | (with_reducible exact ih1 _ _ _ _ _ _ _ _)
      | (with_reducible exact ih2 _ _ _ _ _ _ _ _)
      | (with_reducible exact pannierlaw12_same.mono _ _ _ _ _ _ _ _ _)
      | (with_reducible exact LeO.refl _)
      | (with_reducible exact LeO.none _)
      | (with_reducible refine LeO.ite ?_ ?_)
      | (with_reducible refine LeO.bind ?_ (fun _ => ?_))
      | exact ih0 _ _ _ _
      | exact ih1 _ _ _ _ _ _ _ _
      | exact ih2 _ _ _ _ _ _ _ _
      | exact pannierlaw12_same.mono _ _ _ _ _ _ _ _ _
      | exact LeO.none _
      | refine LeO.ite ?_ ?_
      | refine LeO.bind ?_ (fun _ => ?_)
    · intro y0 y1 y2 y3 y4 y5 y6 y7
      unfold pannierlaw12_PushPieces.j1
      repeat' first
      | (with_reducible exact ih0 _ _ _ _)
      | (with_reducible exact ih1 _ _ _ _ _ _ _ _)
      | (with_reducible exact ih2 _ _ _ _ _ _ _ _)
      | (with_reducible exact pannierlaw12_same.mono _ _ _ _ _ _ _ _ _)
      | (with_reducible exact LeO.refl _)
      | (with_reducible exact LeO.none _)
      | (with_reducible refine LeO.ite ?_ ?_)
      | (with_reducible refine LeO.bind ?_ (fun _ => ?_))
      | exact ih0 _ _ _ _
      | exact ih1 _ _ _ _ _ _ _ _
      | exact ih2 _ _ _ _ _ _ _ _
      | exact pannierlaw12_same.mono _ _ _ _ _ _ _ _ _
      | exact LeO.none _
      | refine LeO.ite ?_ ?_
      | refine LeO.bind ?_ (fun _ => ?_)
    · intro y0 y1 y2 y3 y4 y5 y6 y7
      unfold pannierlaw12_PushPieces.j2
      repeat' first
      | (with_reducible exact ih0 _ _ _ _)
      | (with_reducible exact ih1 _ _ _ _ _ _ _ _)
      | (with_reducible exact ih2 _ _ _ _ _ _ _ _)
      | (with_reducible exact pannierlaw12_same.mono _ _ _ _ _ _ _ _ _)
      | (with_reducible exact LeO.refl _)
      | (with_reducible exact LeO.none _)
      | (with_reducible refine LeO.ite ?_ ?_)
      | (with_reducible refine LeO.bind ?_ (fun _ => ?_))
      | exact ih0 _ _ _ _
      | exact ih1 _ _ _ _ _ _ _ _
      | exact ih2 _ _ _ _ _ _ _ _
      | exact pannierlaw12_same.mono _ _ _ _ _ _ _ _ _
      | exact LeO.none _
      | refine LeO.ite ?_ ?_
      | refine LeO.bind ?_ (fun _ => ?_)
theorem pannierlaw12_PushPieces.mono : ∀ a0 a1 a2 k, LeO (pannierlaw12_PushPieces.f k a0 a1 a2) (pannierlaw12_PushPieces.f (k + 1) a0 a1 a2) := by
  intro a0 a1 a2 k
  obtain ⟨ih0, ih1, ih2⟩ := pannierlaw12_PushPieces.mono_l k
  unfold pannierlaw12_PushPieces.f
  repeat' first
      | (with_reducible exact ih0 _ _ _ _)
      | (with_reducible exact ih1 _ _ _ _ _ _ _ _)
      | (with_reducible exact ih2 _ _ _ _ _ _ _ _)
      | (with_reducible exact pannierlaw12_same.mono _ _ _ _ _ _ _ _ _)
      | (with_reducible exact LeO.refl _)
      | (with_reducible exact LeO.none _)
      | (with_reducible refine LeO.ite ?_ ?_)
      | (with_reducible refine LeO.bind ?_ (fun _ => ?_))
      | exact ih0 _ _ _ _
      | exact ih1 _ _ _ _ _ _ _ _
      | exact ih2 _ _ _ _ _ _ _ _
      | exact pannierlaw12_same.mono _ _ _ _ _ _ _ _ _
      | exact LeO.none _
      | refine LeO.ite ?_ ?_
      | refine LeO.bind ?_ (fun _ => ?_)
set_option maxHeartbeats 8000000 in
set_option maxRecDepth 100000 in
theorem pannierlaw12_PushPieces.calls (k : Nat) (A0 : Option Addr) (c0 : Nat) (l0 : List Int) (A1 : Option Addr) (c1 : Nat) (l1 : List Int) (A2 : Option Addr) (c2 : Nat) (l2 : List Int) (r : Bool) (w : World) (hr0 : Kd.C (Kd.int .u8) w A0 l0.length l0) (hc0 : l0.length ≤ c0) (hr1 : Kd.C (Kd.int .u8) w A1 l1.length l1) (hc1 : l1.length ≤ c1) (hr2 : Kd.C (Kd.int .i64) w A2 l2.length l2) (hc2 : l2.length ≤ c2) (hE_ : EnvE w) (h : pannierlaw12_PushPieces.f k l0 l1 l2 = some r) :
    Calls Tryz.prog 5 #[.slice A0 l0.length c0, .slice A1 l1.length c1, .slice A2 l2.length c2] w fun e w' => e = .returned (.bool r) ∧ Below w.heap.size w w' := by
  have HE_ := Aside0.mk hE_
  clear hE_
  have hu49 := Tryz.underlying49
  have HR0 := Aside0.mk hr0
  have HC0 := Aside0.mk hc0
  clear hr0 hc0
  have HR1 := Aside0.mk hr1
  have HC1 := Aside0.mk hc1
  clear hr1 hc1
  have HR2 := Aside0.mk hr2
  have HC2 := Aside0.mk hc2
  clear hr2 hc2
  have HB := Aside0.mk (Below.refl w.heap.size w)
  have H : ((pannierlaw12_reads.f).bind fun t105 => (if t105 = true then (if (l0.length : Int) > 20000 then (pannierlaw12_PushPieces.j0 k l0 l1 l2 true) else (if (l1.length : Int) > 2000 then (pannierlaw12_PushPieces.j0 k l0 l1 l2 true) else (pannierlaw12_PushPieces.j0 k l0 l1 l2 (decide ((l2.length : Int) > 200))))) else (some false))) = some r := h
  clear h
  replace H := Option.bind_eq_some_iff.mp H
  obtain ⟨t105, A40, H⟩ := H
  replace H : (if t105 = true then (if (l0.length : Int) > 20000 then (pannierlaw12_PushPieces.j0 k l0 l1 l2 true) else (if (l1.length : Int) > 2000 then (pannierlaw12_PushPieces.j0 k l0 l1 l2 true) else (pannierlaw12_PushPieces.j0 k l0 l1 l2 (decide ((l2.length : Int) > 200))))) else (some false)) = some r := H
  have A4 := Aside0.mk A40
  clear A40
  by_cases c5 : t105 = true
  · subst c5
    have H1 : (if (l0.length : Int) > 20000 then (pannierlaw12_PushPieces.j0 k l0 l1 l2 true) else (if (l1.length : Int) > 2000 then (pannierlaw12_PushPieces.j0 k l0 l1 l2 true) else (pannierlaw12_PushPieces.j0 k l0 l1 l2 (decide ((l2.length : Int) > 200))))) = some r := by rw [if_pos rfl] at H; exact H
    clear H
    have H := H1
    clear H1
    have HC6 := Aside0.mk H
    clear H
    go_enter Tryz.func5, Tryz.ntmps5
    go_upto_region 3 with (first | ((with_reducible refine gate_callee (f := 19) rfl ?_); refine goesL_ (some 13) rfl rfl Tryz.func19 (by kernel_rfl) rfl #[] rfl (by (try simp only [List.map_toArray, List.map_cons, List.map_nil]); first | done | rfl | (simp only [List.length_drop, List.length_take]; rfl)) ?_; (with_reducible refine (pannierlaw12_reads.calls  true _ ?side1 A4.out).mono ?_); (case side1 => exact HE_.out.below (by repeat (first | (with_reducible first | exact HB.out | apply below_alloc | apply pw_below_drewN | apply below_drew1) | exact HB.out))); rintro e w7 ⟨rfl, hb⟩; refine ⟨_, rfl, ?_⟩; have n0_ := Aside0.mk (below_step (by repeat (first | (with_reducible first | exact HB.out | apply below_alloc | apply pw_below_drewN | apply below_drew1) | exact HB.out)) hb); clear HB; have HB := n0_; clear n0_; (try clear hb); (try clear hb2); (try clear hk); (try clear hi)))
    (try simp only [Act.put, List.setIfInBounds_toArray, List.set_cons_zero, List.set_cons_succ])
    go_cut [27] (fun v27 wc => ∃ (kq : Nat) (x27_5 : Bool), v27 = .bool x27_5 ∧ Aside0 (pannierlaw12_PushPieces.j0 kq l0 l1 l2 x27_5 = some r) ∧ Aside0 (kq ≤ k) ∧ Aside0 (Below w.heap.size w wc))
    case first =>
      have H := HC6.out
      clear HC6
      by_cases c8 : (l0.length : Int) > 20000
      · rw [if_pos c8] at H
        have c8b0 : decide (20000 < (l0.length : Int)) = true := decide_eq_true c8
        have c8b1 : decide (20000 < l0.length) = true := decide_eq_true (by omega)
        clear c8
        (first | rw [c8b0] | (simp only [i64_w, i32_w]; rw [c8b0]) | skip)
        have H' := Aside0.mk H
        clear H
        go_wp2
        go_meet
        case rel => exact ⟨_, (true), (by first | rfl | (simp; done) | (simp; exact (fun l_ : List UInt8 => (by cases l_ <;> rfl : l_.isEmpty = !(l_ != []))) _) | (simp; exact (fun (x_ : Bool) (l_ : List UInt8) => (by cases x_ <;> cases l_ <;> rfl : (x_ == !l_.isEmpty) = !(x_ != (l_ != [])))) _ _) | (simp [*]; done)), H', ⟨by first | omega | exact Nat.le_refl _⟩, ⟨by repeat (first | (with_reducible first | exact HB.out | apply below_alloc | apply pw_below_drewN | apply below_drew1) | exact HB.out)⟩⟩
      · rw [if_neg c8] at H
        have c8b0 : decide (20000 < (l0.length : Int)) = false := decide_eq_false c8
        have c8b1 : decide (20000 < l0.length) = false := decide_eq_false (by omega)
        clear c8
        (first | rw [c8b0] | (simp only [i64_w, i32_w]; rw [c8b0]) | skip)
        by_cases c9 : (l1.length : Int) > 2000
        · rw [if_pos c9] at H
          have c9b0 : decide (2000 < (l1.length : Int)) = true := decide_eq_true c9
          have c9b1 : decide (2000 < l1.length) = true := decide_eq_true (by omega)
          clear c9
          have H' := Aside0.mk H
          clear H
          go_wp2
          go_meet
          case rel => exact ⟨_, (true), (by first | rfl | (simp; done) | (simp; exact (fun l_ : List UInt8 => (by cases l_ <;> rfl : l_.isEmpty = !(l_ != []))) _) | (simp; exact (fun (x_ : Bool) (l_ : List UInt8) => (by cases x_ <;> cases l_ <;> rfl : (x_ == !l_.isEmpty) = !(x_ != (l_ != [])))) _ _) | (simp [*]; done)), H', ⟨by first | omega | exact Nat.le_refl _⟩, ⟨by repeat (first | (with_reducible first | exact HB.out | apply below_alloc | apply pw_below_drewN | apply below_drew1) | exact HB.out)⟩⟩
        · rw [if_neg c9] at H
          have c9b0 : decide (2000 < (l1.length : Int)) = false := decide_eq_false c9
          have c9b1 : decide (2000 < l1.length) = false := decide_eq_false (by omega)
          clear c9
          have H' := Aside0.mk H
          clear H
          go_wp2
          go_meet
          case rel => exact ⟨_, (decide ((l2.length : Int) > 200)), (by first | rfl | (simp; done) | (simp; exact (fun l_ : List UInt8 => (by cases l_ <;> rfl : l_.isEmpty = !(l_ != []))) _) | (simp; exact (fun (x_ : Bool) (l_ : List UInt8) => (by cases x_ <;> cases l_ <;> rfl : (x_ == !l_.isEmpty) = !(x_ != (l_ != [])))) _ _) | (simp [*]; done)), H', ⟨by first | omega | exact Nat.le_refl _⟩, ⟨by repeat (first | (with_reducible first | exact HB.out | apply below_alloc | apply pw_below_drewN | apply below_drew1) | exact HB.out)⟩⟩
    case rest =>
      clear HC6
      try clear c1
      try clear c2
      try clear p2
      try clear c5
      try clear c8
      try clear c8b0
      try clear c8b1
      try clear c9
      try clear c9b0
      try clear c9b1
      obtain ⟨kq, x27_5, rfl, HA, HJ5, HB⟩ := hcut
      cases kq with
      | zero => exact absurd HA.out (by simp [pannierlaw12_PushPieces.j0])
      | succ kj5 =>
        have H := HA.out
        clear HA
        simp only [pannierlaw12_PushPieces.j0] at H
        by_cases c10 : x27_5 = true
        · subst c10
          have H1 : (some true) = some r := by rw [if_pos rfl] at H; exact H
          clear H
          have H := H1
          clear H1
          obtain rfl := Option.some.inj H
          go_wp2
          go_ret
          exact ⟨by first | rfl | (simp [errW_none, errW_some] <;> rfl) | (simp [*, errW_none, errW_some] <;> rfl), by repeat (first | (with_reducible first | exact HB.out | apply below_alloc | apply pw_below_drewN | apply below_drew1) | exact HB.out)⟩
        · replace c10 := Bool.eq_false_iff.mpr c10
          subst c10
          have H1 : ((pannierlaw12_fed.f l0 ([] : List Int)).bind fun bt106 => ((pannierlaw12_fed.f l0 l2).bind fun bt114 => (if bt106.2.2.2.2 = true then (if bt114.2.2.2.2 = true then ((pannierlaw12_same.f kj5 bt106.1 bt106.2.1 bt106.2.2.1 bt106.2.2.2.1 bt114.1 bt114.2.1 bt114.2.2.1 bt114.2.2.2.1).bind fun t122 => (pannierlaw12_PushPieces.j1 kj5 l0 l1 l2 (!t122) bt106.1 bt106.2.1 bt106.2.2.1 bt106.2.2.2.1)) else (pannierlaw12_PushPieces.j1 kj5 l0 l1 l2 true bt106.1 bt106.2.1 bt106.2.2.1 bt106.2.2.2.1)) else (pannierlaw12_PushPieces.j1 kj5 l0 l1 l2 true bt106.1 bt106.2.1 bt106.2.2.1 bt106.2.2.2.1)))) = some r := by rw [if_neg (show ¬ (false = true) by decide)] at H; exact H
          clear H
          have H := H1
          clear H1
          replace H := Option.bind_eq_some_iff.mp H
          obtain ⟨⟨t106, t109, t110, t111, t112⟩, A110, H⟩ := H
          replace H : ((pannierlaw12_fed.f l0 l2).bind fun bt114 => (if t112 = true then (if bt114.2.2.2.2 = true then ((pannierlaw12_same.f kj5 t106 t109 t110 t111 bt114.1 bt114.2.1 bt114.2.2.1 bt114.2.2.2.1).bind fun t122 => (pannierlaw12_PushPieces.j1 kj5 l0 l1 l2 (!t122) t106 t109 t110 t111)) else (pannierlaw12_PushPieces.j1 kj5 l0 l1 l2 true t106 t109 t110 t111)) else (pannierlaw12_PushPieces.j1 kj5 l0 l1 l2 true t106 t109 t110 t111))) = some r := H
          have A11 := Aside0.mk A110
          clear A110
          replace H := Option.bind_eq_some_iff.mp H
          obtain ⟨⟨t114, t117, t118, t119, t120⟩, A120, H⟩ := H
          replace H : (if t112 = true then (if t120 = true then ((pannierlaw12_same.f kj5 t106 t109 t110 t111 t114 t117 t118 t119).bind fun t122 => (pannierlaw12_PushPieces.j1 kj5 l0 l1 l2 (!t122) t106 t109 t110 t111)) else (pannierlaw12_PushPieces.j1 kj5 l0 l1 l2 true t106 t109 t110 t111)) else (pannierlaw12_PushPieces.j1 kj5 l0 l1 l2 true t106 t109 t110 t111)) = some r := H
          have A12 := Aside0.mk A120
          clear A120
          have HC13 := Aside0.mk H
          clear H
          go_upto_region 7 with (first | ((with_reducible refine gate_callee (f := 20) rfl ?_); refine goesL_ (some 30) rfl rfl Tryz.func20 (by kernel_rfl) rfl #[.slice A0 l0.length c0, .slice none 0 0] rfl (by (try simp only [List.map_toArray, List.map_cons, List.map_nil]); first | done | rfl | (simp only [List.length_drop, List.length_take]; rfl)) ?_; (refine (pannierlaw12_fed.calls _ _ l0 _ _ ([] : List Int) t106 t109 t110 t111 t112 _ ?side1 ?side2 ?side3 ?side4 ?side5 A11.out).mono ?_); (case side1 => repeat (first | exact (Kd.C_below HR0.out HB.out) | (with_reducible refine Kd.C_alloc ?_ _) | (with_reducible refine Kd.C_drewN ?_ _) | (with_reducible refine Kd.C_drew ?_))); (case side2 => exact HC0.out); (case side3 => exact Kd.C_nil _ _); (case side4 => exact Nat.le_refl _); (case side5 => exact HE_.out.below (by repeat (first | (with_reducible first | exact HB.out | apply below_alloc | apply pw_below_drewN | apply below_drew1) | exact HB.out))); rintro e w14 ⟨v107, rfl, ho0, hb⟩; refine ⟨_, rfl, ?_⟩; have n0_ := Aside0.mk (Kd.R_lower ho0 (below_size (by repeat (first | (with_reducible first | exact HB.out | apply below_alloc | apply pw_below_drewN | apply below_drew1) | exact HB.out)))); have n1_ := Aside0.mk (below_step (by repeat (first | (with_reducible first | exact HB.out | apply below_alloc | apply pw_below_drewN | apply below_drew1) | exact HB.out)) hb); clear HB; have HO108 := n0_; have HB := n1_; clear n0_ n1_; (try clear hb); (try clear hb2); (try clear hk); (try clear hi); (try clear ho0)) | ((with_reducible refine gate_dst (N := 7) rfl ?_); (try (refine gate_guard (by rfl) ?_; dsimp only)); refine box_event ?hg (N := 7) ?hd (cs := #[.slice none 0 0, .bool false, .int .i64 0, .int .i64 0]) (t := 49) ?hr ?_; (case hd => rfl); (case hg => rfl); (case hr => first | (go_simp; done) | (go_simp; rfl)); intro gb113 hg w15 hbox hb; have n0_ := Aside0.mk (Kd.R_below (by (with_reducible repeat (first | apply Kd.R_alloc | apply Kd.R_drewN | apply Kd.R_drew)); exact HO108.out) hb); have n1_ := Aside0.mk (below_step (by repeat (first | (with_reducible first | exact HB.out | apply below_alloc | apply pw_below_drewN | apply below_drew1) | exact HB.out)) hb); have n2_ := Aside0.mk (hbox); have n3_ := Aside0.mk ((by rw [hg]; exact (below_size (by repeat (first | (with_reducible first | exact HB.out | apply below_alloc | apply pw_below_drewN | apply below_drew1) | exact HB.out))) : w.heap.size ≤ gb113)); have n4_ := Aside0.mk ((by rw [hg]; exact (below_size (by repeat (first | (with_reducible first | exact HB.out | apply below_alloc | apply pw_below_drewN | apply below_drew1) | exact HB.out))) : w.heap.size ≤ gb113)); clear HO108; clear HB; have HO108 := n0_; have HB := n1_; have BK113 := n2_; have GW113 := n3_; have GE113 := n4_; clear n0_ n1_ n2_ n3_ n4_; clear hb hbox hg; obtain ⟨Ao16, co16, eo16⟩ := Kd.R_slice HO108.out; subst eo16; have hcz17_0 : w15.cell? ⟨gb113, 0, none⟩ = some (.slice none 0 0) := (blk_cell BK113.out 0).trans rfl; have hcz17_1 : w15.cell? ⟨gb113, 1, none⟩ = some (.bool false) := (blk_cell BK113.out 1).trans rfl; have hcz17_2 : w15.cell? ⟨gb113, 2, none⟩ = some (.int .i64 0) := (blk_cell BK113.out 2).trans rfl; have hcz17_3 : w15.cell? ⟨gb113, 3, none⟩ = some (.int .i64 0) := (blk_cell BK113.out 3).trans rfl; have hfz17_0 := blk_frozen BK113.out 0; have hfz17_1 := blk_frozen BK113.out 1; have hfz17_2 := blk_frozen BK113.out 2; have hfz17_3 := blk_frozen BK113.out 3) | ((with_reducible refine gate_callee (f := 20) rfl ?_); refine goesL_ (some 36) rfl rfl Tryz.func20 (by kernel_rfl) rfl #[.slice A0 l0.length c0, .slice A2 l2.length c2] rfl (by (try simp only [List.map_toArray, List.map_cons, List.map_nil]); first | done | rfl | (simp only [List.length_drop, List.length_take]; rfl)) ?_; (with_reducible refine (pannierlaw12_fed.calls _ _ l0 _ _ l2 t114 t117 t118 t119 t120 _ ?side1 ?side2 ?side3 ?side4 ?side5 A12.out).mono ?_); (case side1 => exact Kd.C_below HR0.out (by repeat (first | (with_reducible first | exact HB.out | apply below_alloc | apply pw_below_drewN | apply below_drew1 | refine below_set ?_ GE113.out) | exact HB.out))); (case side2 => exact HC0.out); (case side3 => exact Kd.C_below HR2.out (by repeat (first | (with_reducible first | exact HB.out | apply below_alloc | apply pw_below_drewN | apply below_drew1 | refine below_set ?_ GE113.out) | exact HB.out))); (case side4 => exact HC2.out); (case side5 => exact HE_.out.below (by repeat (first | (with_reducible first | exact HB.out | apply below_alloc | apply pw_below_drewN | apply below_drew1 | refine below_set ?_ GE113.out) | exact HB.out))); rintro e w18 ⟨v115, rfl, ho0, hb⟩; refine ⟨_, rfl, ?_⟩; have n0_ := Aside0.mk (Kd.R_elder' (by (with_reducible repeat (first | apply Kd.R_alloc | apply Kd.R_drewN | apply Kd.R_drew)); exact (Kd.R_mono (Kd.R_far (p := ⟨gb113, 3, none⟩) (Kd.R_far (p := ⟨gb113, 2, none⟩) (Kd.R_far (p := ⟨gb113, 1, none⟩) (Kd.R_far (p := ⟨gb113, 0, none⟩) (Kd.R_types HO108.out BK113.out (by decide)) (fun _ hk => hk.2) (.slice Ao16 t106.length co16)) (fun _ hk => hk.2) (.bool t109)) (fun _ hk => hk.2) (.int .i64 t110)) (fun _ hk => hk.2) (.int .i64 t111)) (fun _ h_ => h_.1))) (Kd.R_base ho0) hb); have n1_ := Aside0.mk (Kd.R_lower (Kd.R_new' ho0 (Kd.R_lt (by (with_reducible repeat (first | apply Kd.R_alloc | apply Kd.R_drewN | apply Kd.R_drew)); exact (Kd.R_mono (Kd.R_far (p := ⟨gb113, 3, none⟩) (Kd.R_far (p := ⟨gb113, 2, none⟩) (Kd.R_far (p := ⟨gb113, 1, none⟩) (Kd.R_far (p := ⟨gb113, 0, none⟩) (Kd.R_types HO108.out BK113.out (by decide)) (fun _ hk => hk.2) (.slice Ao16 t106.length co16)) (fun _ hk => hk.2) (.bool t109)) (fun _ hk => hk.2) (.int .i64 t110)) (fun _ hk => hk.2) (.int .i64 t111)) (fun _ h_ => h_.1))))) (below_size (by repeat (first | (with_reducible first | exact HB.out | apply below_alloc | apply pw_below_drewN | apply below_drew1 | refine below_set ?_ GE113.out) | exact HB.out)))); have n2_ := Aside0.mk (blk_below (g := gb113) (o := .cells #[.slice Ao16 t106.length co16, .bool t109, .int .i64 t110, .int .i64 t111] 49 (0, 0)) (by (with_reducible repeat (first | refine blk_drewN ?_ _ | refine blk_drew ?_ | refine blk_alloc ?_ _)); refine blk_put (cs := #[.slice Ao16 t106.length co16, .bool t109, .int .i64 t110, .int .i64 0]) ?_ 3 _ rfl; (with_reducible repeat (first | refine blk_drewN ?_ _ | refine blk_drew ?_ | refine blk_alloc ?_ _)); refine blk_put (cs := #[.slice Ao16 t106.length co16, .bool t109, .int .i64 0, .int .i64 0]) ?_ 2 _ rfl; (with_reducible repeat (first | refine blk_drewN ?_ _ | refine blk_drew ?_ | refine blk_alloc ?_ _)); refine blk_put (cs := #[.slice Ao16 t106.length co16, .bool false, .int .i64 0, .int .i64 0]) ?_ 1 _ rfl; (with_reducible repeat (first | refine blk_drewN ?_ _ | refine blk_drew ?_ | refine blk_alloc ?_ _)); refine blk_put (cs := #[.slice none 0 0, .bool false, .int .i64 0, .int .i64 0]) ?_ 0 _ rfl; (with_reducible repeat (first | refine blk_drewN ?_ _ | refine blk_drew ?_ | refine blk_alloc ?_ _)); exact BK113.out) hb); have n3_ := Aside0.mk (below_step (by repeat (first | (with_reducible first | exact HB.out | apply below_alloc | apply pw_below_drewN | apply below_drew1 | refine below_set ?_ GE113.out) | exact HB.out)) hb); clear HO108; clear BK113; clear HB; have HO108 := n0_; have HO116 := n1_; have BK113 := n2_; have HB := n3_; clear n0_ n1_ n2_ n3_; (try clear hb); (try clear hb2); (try clear hk); (try clear hi); (try clear ho0)) | ((with_reducible refine gate_dst (N := 9) rfl ?_); (try (refine gate_guard (by rfl) ?_; dsimp only)); refine box_event ?hg (N := 9) ?hd (cs := #[.slice none 0 0, .bool false, .int .i64 0, .int .i64 0]) (t := 49) ?hr ?_; (case hd => rfl); (case hg => rfl); (case hr => first | (go_simp; done) | (go_simp; rfl)); intro gb121 hg w19 hbox hb; have n0_ := Aside0.mk (Kd.R_below (by (with_reducible repeat (first | apply Kd.R_alloc | apply Kd.R_drewN | apply Kd.R_drew)); exact HO108.out) hb); have n1_ := Aside0.mk (Kd.R_below (by (with_reducible repeat (first | apply Kd.R_alloc | apply Kd.R_drewN | apply Kd.R_drew)); exact HO116.out) hb); have n2_ := Aside0.mk (blk_below (g := gb113) (o := .cells #[.slice Ao16 t106.length co16, .bool t109, .int .i64 t110, .int .i64 t111] 49 (0, 0)) (by (with_reducible repeat (first | refine blk_drewN ?_ _ | refine blk_drew ?_ | refine blk_alloc ?_ _)); exact BK113.out) hb); have n3_ := Aside0.mk (below_step (by repeat (first | (with_reducible first | exact HB.out | apply below_alloc | apply pw_below_drewN | apply below_drew1 | refine below_set ?_ GE113.out) | exact HB.out)) hb); have n4_ := Aside0.mk (hbox); have n5_ := Aside0.mk ((by rw [hg]; exact (below_size (by repeat (first | (with_reducible first | exact HB.out | apply below_alloc | apply pw_below_drewN | apply below_drew1 | refine below_set ?_ GE113.out) | exact HB.out))) : w.heap.size ≤ gb121)); have n6_ := Aside0.mk ((by rw [hg]; exact (below_size (by repeat (first | (with_reducible first | exact HB.out | apply below_alloc | apply pw_below_drewN | apply below_drew1 | refine below_set ?_ GE113.out) | exact HB.out))) : w.heap.size ≤ gb121)); have n7_ := Aside0.mk ((by rw [hg]; exact Nat.ne_of_lt (blk_lt (g := gb113) (o := .cells #[.slice Ao16 t106.length co16, .bool t109, .int .i64 t110, .int .i64 t111] 49 (0, 0)) (by (with_reducible repeat (first | refine blk_drewN ?_ _ | refine blk_drew ?_ | refine blk_alloc ?_ _)); exact BK113.out)) : gb113 ≠ gb121)); have n8_ := Aside0.mk ((by rw [hg]; exact Nat.ne_of_gt (blk_lt (g := gb113) (o := .cells #[.slice Ao16 t106.length co16, .bool t109, .int .i64 t110, .int .i64 t111] 49 (0, 0)) (by (with_reducible repeat (first | refine blk_drewN ?_ _ | refine blk_drew ?_ | refine blk_alloc ?_ _)); exact BK113.out)) : gb121 ≠ gb113)); clear HO108; clear HO116; clear BK113; clear HB; have HO108 := n0_; have HO116 := n1_; have BK113 := n2_; have HB := n3_; have BK121 := n4_; have GW121 := n5_; have GE121 := n6_; have NB113_121 := n7_; have NB121_113 := n8_; clear n0_ n1_ n2_ n3_ n4_ n5_ n6_ n7_ n8_; clear hb hbox hg; obtain ⟨Ao20, co20, eo20⟩ := Kd.R_slice HO116.out; subst eo20; have hnb21 := NB121_113.out; have hnc21 := NB113_121.out; have hcz22_0 : w19.cell? ⟨gb121, 0, none⟩ = some (.slice none 0 0) := (blk_cell BK121.out 0).trans rfl; have hcz22_1 : w19.cell? ⟨gb121, 1, none⟩ = some (.bool false) := (blk_cell BK121.out 1).trans rfl; have hcz22_2 : w19.cell? ⟨gb121, 2, none⟩ = some (.int .i64 0) := (blk_cell BK121.out 2).trans rfl; have hcz22_3 : w19.cell? ⟨gb121, 3, none⟩ = some (.int .i64 0) := (blk_cell BK121.out 3).trans rfl; have hfz22_0 := blk_frozen BK121.out 0; have hfz22_1 := blk_frozen BK121.out 1; have hfz22_2 := blk_frozen BK121.out 2; have hfz22_3 := blk_frozen BK121.out 3))
          (try simp only [Act.put, List.setIfInBounds_toArray, List.set_cons_zero, List.set_cons_succ])
          go_cut [50] (fun v50 wc => ∃ (kq : Nat) (x50_12 : Bool), v50 = .bool x50_12 ∧ Aside0 (pannierlaw12_PushPieces.j1 kq l0 l1 l2 x50_12 t106 t109 t110 t111 = some r) ∧ Aside0 (kq ≤ kj5) ∧ Aside0 (Kd.R k57 57 wc w.heap.size (fun k_ => some k_ ≠ ((.slice Ao20 t114.length co20) : Value).ownBlock) (.slice Ao16 t106.length co16) t106) ∧ Aside0 (Kd.R k57 57 wc w.heap.size (fun k_ => some k_ ≠ ((.slice Ao16 t106.length co16) : Value).ownBlock) (.slice Ao20 t114.length co20) t114) ∧ Aside0 (wc.heap[gb113]? = some (.cells #[(.slice Ao16 t106.length co16), .bool t109, .int .i64 t110, .int .i64 t111] 49 (0, 0))) ∧ Aside0 (wc.heap[gb121]? = some (.cells #[(.slice Ao20 t114.length co20), .bool t117, .int .i64 t118, .int .i64 t119] 49 (0, 0))) ∧ Aside0 (Below w.heap.size w wc))
          case first =>
            have H := HC13.out
            clear HC13
            by_cases c23 : t112 = true
            · subst c23
              have H1 : (if t120 = true then ((pannierlaw12_same.f kj5 t106 t109 t110 t111 t114 t117 t118 t119).bind fun t122 => (pannierlaw12_PushPieces.j1 kj5 l0 l1 l2 (!t122) t106 t109 t110 t111)) else (pannierlaw12_PushPieces.j1 kj5 l0 l1 l2 true t106 t109 t110 t111)) = some r := by rw [if_pos rfl] at H; exact H
              clear H
              have H := H1
              clear H1
              by_cases c24 : t120 = true
              · subst c24
                have H1 : ((pannierlaw12_same.f kj5 t106 t109 t110 t111 t114 t117 t118 t119).bind fun t122 => (pannierlaw12_PushPieces.j1 kj5 l0 l1 l2 (!t122) t106 t109 t110 t111)) = some r := by rw [if_pos rfl] at H; exact H
                clear H
                have H := H1
                clear H1
                replace H := Option.bind_eq_some_iff.mp H
                obtain ⟨t122, A250, H⟩ := H
                replace H : (pannierlaw12_PushPieces.j1 kj5 l0 l1 l2 (!t122) t106 t109 t110 t111) = some r := H
                have A25 := Aside0.mk A250
                clear A250
                have H' := Aside0.mk H
                clear H
                have hnb26 := NB113_121.out
                have hnc26 := NB121_113.out
                have hcz27_0 : w19.cell? ⟨gb113, 0, none⟩ = some (.slice Ao16 t106.length co16) := (blk_cell BK113.out 0).trans rfl
                have hcz27_1 : w19.cell? ⟨gb113, 1, none⟩ = some (.bool t109) := (blk_cell BK113.out 1).trans rfl
                have hcz27_2 : w19.cell? ⟨gb113, 2, none⟩ = some (.int .i64 t110) := (blk_cell BK113.out 2).trans rfl
                have hcz27_3 : w19.cell? ⟨gb113, 3, none⟩ = some (.int .i64 t111) := (blk_cell BK113.out 3).trans rfl
                have hfz27_0 := blk_frozen BK113.out 0
                have hfz27_1 := blk_frozen BK113.out 1
                have hfz27_2 := blk_frozen BK113.out 2
                have hfz27_3 := blk_frozen BK113.out 3
                have hcz28_0 : w19.cell? ⟨gb121, 0, none⟩ = some (.slice none 0 0) := (blk_cell BK121.out 0).trans rfl
                have hcz28_1 : w19.cell? ⟨gb121, 1, none⟩ = some (.bool false) := (blk_cell BK121.out 1).trans rfl
                have hcz28_2 : w19.cell? ⟨gb121, 2, none⟩ = some (.int .i64 0) := (blk_cell BK121.out 2).trans rfl
                have hcz28_3 : w19.cell? ⟨gb121, 3, none⟩ = some (.int .i64 0) := (blk_cell BK121.out 3).trans rfl
                have hfz28_0 := blk_frozen BK121.out 0
                have hfz28_1 := blk_frozen BK121.out 1
                have hfz28_2 := blk_frozen BK121.out 2
                have hfz28_3 := blk_frozen BK121.out 3
                go_wp2_with (first | (go_at_call 21; (with_reducible refine (pannierlaw12_same.calls kj5 _ _ t106 t109 t110 t111 _ _ t114 t117 t118 t119 t122 _ ?side1 ?side2 ?side3 ?side4 A25.out).mono ?_); (case side1 => refine (Kd.R_reads' (e := 57) (base := w.heap.size) (ok := fun k_ => (True ∧ some k_ ≠ (.slice Ao20 t114.length co20 : Value).ownBlock)) (n := t106.length) (c := co16) ?_).2.2; exact (by (with_reducible repeat (first | apply Kd.R_alloc | apply Kd.R_drewN | apply Kd.R_drew)); exact (Kd.R_mono (Kd.R_far (p := ⟨gb121, 3, none⟩) (Kd.R_far (p := ⟨gb121, 2, none⟩) (Kd.R_far (p := ⟨gb121, 1, none⟩) (Kd.R_far (p := ⟨gb121, 0, none⟩) (Kd.R_types HO108.out BK121.out (by decide)) (fun _ hk => hk.2) (.slice Ao20 t114.length co20)) (fun _ hk => hk.2) (.bool t117)) (fun _ hk => hk.2) (.int .i64 t118)) (fun _ hk => hk.2) (.int .i64 t119)) (fun _ h_ => h_.1)))); (case side2 => exact (Kd.R_reads' HO108.out).2.1); (case side3 => refine (Kd.R_reads' (e := 57) (base := w.heap.size) (ok := fun k_ => (True ∧ some k_ ≠ (.slice Ao16 t106.length co16 : Value).ownBlock)) (n := t114.length) (c := co20) ?_).2.2; exact (by (with_reducible repeat (first | apply Kd.R_alloc | apply Kd.R_drewN | apply Kd.R_drew)); exact (Kd.R_mono (Kd.R_far (p := ⟨gb121, 3, none⟩) (Kd.R_far (p := ⟨gb121, 2, none⟩) (Kd.R_far (p := ⟨gb121, 1, none⟩) (Kd.R_far (p := ⟨gb121, 0, none⟩) (Kd.R_types HO116.out BK121.out (by decide)) (fun _ hk => hk.2) (.slice Ao20 t114.length co20)) (fun _ hk => hk.2) (.bool t117)) (fun _ hk => hk.2) (.int .i64 t118)) (fun _ hk => hk.2) (.int .i64 t119)) (fun _ h_ => h_.1)))); (case side4 => exact (Kd.R_reads' HO116.out).2.1); rintro e w29 ⟨rfl, hb⟩; have n0_ := Aside0.mk (Kd.R_below (by (with_reducible repeat (first | apply Kd.R_alloc | apply Kd.R_drewN | apply Kd.R_drew)); exact (Kd.R_mono (Kd.R_far (p := ⟨gb121, 3, none⟩) (Kd.R_far (p := ⟨gb121, 2, none⟩) (Kd.R_far (p := ⟨gb121, 1, none⟩) (Kd.R_far (p := ⟨gb121, 0, none⟩) (Kd.R_types HO108.out BK121.out (by decide)) (fun _ hk => hk.2) (.slice Ao20 t114.length co20)) (fun _ hk => hk.2) (.bool t117)) (fun _ hk => hk.2) (.int .i64 t118)) (fun _ hk => hk.2) (.int .i64 t119)) (fun _ h_ => h_.1))) hb); have n1_ := Aside0.mk (Kd.R_below (by (with_reducible repeat (first | apply Kd.R_alloc | apply Kd.R_drewN | apply Kd.R_drew)); exact (Kd.R_mono (Kd.R_far (p := ⟨gb121, 3, none⟩) (Kd.R_far (p := ⟨gb121, 2, none⟩) (Kd.R_far (p := ⟨gb121, 1, none⟩) (Kd.R_far (p := ⟨gb121, 0, none⟩) (Kd.R_types HO116.out BK121.out (by decide)) (fun _ hk => hk.2) (.slice Ao20 t114.length co20)) (fun _ hk => hk.2) (.bool t117)) (fun _ hk => hk.2) (.int .i64 t118)) (fun _ hk => hk.2) (.int .i64 t119)) (fun _ h_ => h_.1))) hb); have n2_ := Aside0.mk (blk_below (g := gb113) (o := .cells #[.slice Ao16 t106.length co16, .bool t109, .int .i64 t110, .int .i64 t111] 49 (0, 0)) (by (with_reducible repeat (first | refine blk_drewN ?_ _ | refine blk_drew ?_ | refine blk_alloc ?_ _)); refine blk_far ?_ NB113_121.out _; (with_reducible repeat (first | refine blk_drewN ?_ _ | refine blk_drew ?_ | refine blk_alloc ?_ _)); refine blk_far ?_ NB113_121.out _; (with_reducible repeat (first | refine blk_drewN ?_ _ | refine blk_drew ?_ | refine blk_alloc ?_ _)); refine blk_far ?_ NB113_121.out _; (with_reducible repeat (first | refine blk_drewN ?_ _ | refine blk_drew ?_ | refine blk_alloc ?_ _)); refine blk_far ?_ NB113_121.out _; (with_reducible repeat (first | refine blk_drewN ?_ _ | refine blk_drew ?_ | refine blk_alloc ?_ _)); exact BK113.out) hb); have n3_ := Aside0.mk (blk_below (g := gb121) (o := .cells #[.slice Ao20 t114.length co20, .bool t117, .int .i64 t118, .int .i64 t119] 49 (0, 0)) (by (with_reducible repeat (first | refine blk_drewN ?_ _ | refine blk_drew ?_ | refine blk_alloc ?_ _)); refine blk_put (cs := #[.slice Ao20 t114.length co20, .bool t117, .int .i64 t118, .int .i64 0]) ?_ 3 _ rfl; (with_reducible repeat (first | refine blk_drewN ?_ _ | refine blk_drew ?_ | refine blk_alloc ?_ _)); refine blk_put (cs := #[.slice Ao20 t114.length co20, .bool t117, .int .i64 0, .int .i64 0]) ?_ 2 _ rfl; (with_reducible repeat (first | refine blk_drewN ?_ _ | refine blk_drew ?_ | refine blk_alloc ?_ _)); refine blk_put (cs := #[.slice Ao20 t114.length co20, .bool false, .int .i64 0, .int .i64 0]) ?_ 1 _ rfl; (with_reducible repeat (first | refine blk_drewN ?_ _ | refine blk_drew ?_ | refine blk_alloc ?_ _)); refine blk_put (cs := #[.slice none 0 0, .bool false, .int .i64 0, .int .i64 0]) ?_ 0 _ rfl; (with_reducible repeat (first | refine blk_drewN ?_ _ | refine blk_drew ?_ | refine blk_alloc ?_ _)); exact BK121.out) hb); have n4_ := Aside0.mk (below_step (by repeat (first | (with_reducible first | exact HB.out | apply below_alloc | apply pw_below_drewN | apply below_drew1 | refine below_set ?_ GE113.out | refine below_set ?_ GE121.out) | exact HB.out)) hb); clear HO108; clear HO116; clear BK113; clear BK121; clear HB; have HO108 := n0_; have HO116 := n1_; have BK113 := n2_; have BK121 := n3_; have HB := n4_; clear n0_ n1_ n2_ n3_ n4_; (try clear hb); (try clear hb2); (try clear hk); (try clear hi)))
                go_meet
                case rel => exact ⟨_, (!t122), (by first | rfl | (simp; done) | (simp; exact (fun l_ : List UInt8 => (by cases l_ <;> rfl : l_.isEmpty = !(l_ != []))) _) | (simp; exact (fun (x_ : Bool) (l_ : List UInt8) => (by cases x_ <;> cases l_ <;> rfl : (x_ == !l_.isEmpty) = !(x_ != (l_ != [])))) _ _) | (simp [*]; done)), H', ⟨by have := HJ5.out; first | omega | exact Nat.le_refl _⟩, ⟨by (with_reducible repeat (first | apply Kd.R_alloc | apply Kd.R_drewN | apply Kd.R_drew)); exact Kd.R_mono HO108.out (fun _ hk => hk.2)⟩, ⟨by (with_reducible repeat (first | apply Kd.R_alloc | apply Kd.R_drewN | apply Kd.R_drew)); exact Kd.R_mono HO116.out (fun _ hk => hk.2)⟩, ⟨by (with_reducible repeat (first | refine blk_drewN ?_ _ | refine blk_drew ?_ | refine blk_alloc ?_ _)); exact BK113.out⟩, ⟨by (with_reducible repeat (first | refine blk_drewN ?_ _ | refine blk_drew ?_ | refine blk_alloc ?_ _)); exact BK121.out⟩, ⟨by repeat (first | (with_reducible first | exact HB.out | apply below_alloc | apply pw_below_drewN | apply below_drew1 | refine below_set ?_ GE113.out | refine below_set ?_ GE121.out) | exact HB.out)⟩⟩
              · replace c24 := Bool.eq_false_iff.mpr c24
                subst c24
                have H1 : (pannierlaw12_PushPieces.j1 kj5 l0 l1 l2 true t106 t109 t110 t111) = some r := by rw [if_neg (show ¬ (false = true) by decide)] at H; exact H
                clear H
                have H := H1
                clear H1
                have H' := Aside0.mk H
                clear H
                go_wp2
                go_meet
                case rel => exact ⟨_, (true), (by first | rfl | (simp; done) | (simp; exact (fun l_ : List UInt8 => (by cases l_ <;> rfl : l_.isEmpty = !(l_ != []))) _) | (simp; exact (fun (x_ : Bool) (l_ : List UInt8) => (by cases x_ <;> cases l_ <;> rfl : (x_ == !l_.isEmpty) = !(x_ != (l_ != [])))) _ _) | (simp [*]; done)), H', ⟨by have := HJ5.out; first | omega | exact Nat.le_refl _⟩, ⟨by (with_reducible repeat (first | apply Kd.R_alloc | apply Kd.R_drewN | apply Kd.R_drew)); exact Kd.R_mono (Kd.R_far (p := ⟨gb121, 3, none⟩) (Kd.R_far (p := ⟨gb121, 2, none⟩) (Kd.R_far (p := ⟨gb121, 1, none⟩) (Kd.R_far (p := ⟨gb121, 0, none⟩) (Kd.R_types HO108.out BK121.out (by decide)) (fun _ hk => hk.2) (.slice Ao20 t114.length co20)) (fun _ hk => hk.2) (.bool t117)) (fun _ hk => hk.2) (.int .i64 t118)) (fun _ hk => hk.2) (.int .i64 t119)) (fun _ hk => hk.1.2)⟩, ⟨by (with_reducible repeat (first | apply Kd.R_alloc | apply Kd.R_drewN | apply Kd.R_drew)); exact Kd.R_mono (Kd.R_far (p := ⟨gb121, 3, none⟩) (Kd.R_far (p := ⟨gb121, 2, none⟩) (Kd.R_far (p := ⟨gb121, 1, none⟩) (Kd.R_far (p := ⟨gb121, 0, none⟩) (Kd.R_types HO116.out BK121.out (by decide)) (fun _ hk => hk.2) (.slice Ao20 t114.length co20)) (fun _ hk => hk.2) (.bool t117)) (fun _ hk => hk.2) (.int .i64 t118)) (fun _ hk => hk.2) (.int .i64 t119)) (fun _ hk => hk.1.2)⟩, ⟨by (with_reducible repeat (first | refine blk_drewN ?_ _ | refine blk_drew ?_ | refine blk_alloc ?_ _)); refine blk_far ?_ NB113_121.out _; (with_reducible repeat (first | refine blk_drewN ?_ _ | refine blk_drew ?_ | refine blk_alloc ?_ _)); refine blk_far ?_ NB113_121.out _; (with_reducible repeat (first | refine blk_drewN ?_ _ | refine blk_drew ?_ | refine blk_alloc ?_ _)); refine blk_far ?_ NB113_121.out _; (with_reducible repeat (first | refine blk_drewN ?_ _ | refine blk_drew ?_ | refine blk_alloc ?_ _)); refine blk_far ?_ NB113_121.out _; (with_reducible repeat (first | refine blk_drewN ?_ _ | refine blk_drew ?_ | refine blk_alloc ?_ _)); exact BK113.out⟩, ⟨by (with_reducible repeat (first | refine blk_drewN ?_ _ | refine blk_drew ?_ | refine blk_alloc ?_ _)); refine blk_put (cs := #[.slice Ao20 t114.length co20, .bool t117, .int .i64 t118, .int .i64 0]) ?_ 3 _ rfl; (with_reducible repeat (first | refine blk_drewN ?_ _ | refine blk_drew ?_ | refine blk_alloc ?_ _)); refine blk_put (cs := #[.slice Ao20 t114.length co20, .bool t117, .int .i64 0, .int .i64 0]) ?_ 2 _ rfl; (with_reducible repeat (first | refine blk_drewN ?_ _ | refine blk_drew ?_ | refine blk_alloc ?_ _)); refine blk_put (cs := #[.slice Ao20 t114.length co20, .bool false, .int .i64 0, .int .i64 0]) ?_ 1 _ rfl; (with_reducible repeat (first | refine blk_drewN ?_ _ | refine blk_drew ?_ | refine blk_alloc ?_ _)); refine blk_put (cs := #[.slice none 0 0, .bool false, .int .i64 0, .int .i64 0]) ?_ 0 _ rfl; (with_reducible repeat (first | refine blk_drewN ?_ _ | refine blk_drew ?_ | refine blk_alloc ?_ _)); exact BK121.out⟩, ⟨by repeat (first | (with_reducible first | exact HB.out | apply below_alloc | apply pw_below_drewN | apply below_drew1 | refine below_set ?_ GE113.out | refine below_set ?_ GE121.out) | exact HB.out)⟩⟩
            · replace c23 := Bool.eq_false_iff.mpr c23
              subst c23
              have H1 : (pannierlaw12_PushPieces.j1 kj5 l0 l1 l2 true t106 t109 t110 t111) = some r := by rw [if_neg (show ¬ (false = true) by decide)] at H; exact H
              clear H
              have H := H1
              clear H1
              have H' := Aside0.mk H
              clear H
              go_wp2
              go_meet
              case rel => exact ⟨_, (true), (by first | rfl | (simp; done) | (simp; exact (fun l_ : List UInt8 => (by cases l_ <;> rfl : l_.isEmpty = !(l_ != []))) _) | (simp; exact (fun (x_ : Bool) (l_ : List UInt8) => (by cases x_ <;> cases l_ <;> rfl : (x_ == !l_.isEmpty) = !(x_ != (l_ != [])))) _ _) | (simp [*]; done)), H', ⟨by have := HJ5.out; first | omega | exact Nat.le_refl _⟩, ⟨by (with_reducible repeat (first | apply Kd.R_alloc | apply Kd.R_drewN | apply Kd.R_drew)); exact Kd.R_mono (Kd.R_far (p := ⟨gb121, 3, none⟩) (Kd.R_far (p := ⟨gb121, 2, none⟩) (Kd.R_far (p := ⟨gb121, 1, none⟩) (Kd.R_far (p := ⟨gb121, 0, none⟩) (Kd.R_types HO108.out BK121.out (by decide)) (fun _ hk => hk.2) (.slice Ao20 t114.length co20)) (fun _ hk => hk.2) (.bool t117)) (fun _ hk => hk.2) (.int .i64 t118)) (fun _ hk => hk.2) (.int .i64 t119)) (fun _ hk => hk.1.2)⟩, ⟨by (with_reducible repeat (first | apply Kd.R_alloc | apply Kd.R_drewN | apply Kd.R_drew)); exact Kd.R_mono (Kd.R_far (p := ⟨gb121, 3, none⟩) (Kd.R_far (p := ⟨gb121, 2, none⟩) (Kd.R_far (p := ⟨gb121, 1, none⟩) (Kd.R_far (p := ⟨gb121, 0, none⟩) (Kd.R_types HO116.out BK121.out (by decide)) (fun _ hk => hk.2) (.slice Ao20 t114.length co20)) (fun _ hk => hk.2) (.bool t117)) (fun _ hk => hk.2) (.int .i64 t118)) (fun _ hk => hk.2) (.int .i64 t119)) (fun _ hk => hk.1.2)⟩, ⟨by (with_reducible repeat (first | refine blk_drewN ?_ _ | refine blk_drew ?_ | refine blk_alloc ?_ _)); refine blk_far ?_ NB113_121.out _; (with_reducible repeat (first | refine blk_drewN ?_ _ | refine blk_drew ?_ | refine blk_alloc ?_ _)); refine blk_far ?_ NB113_121.out _; (with_reducible repeat (first | refine blk_drewN ?_ _ | refine blk_drew ?_ | refine blk_alloc ?_ _)); refine blk_far ?_ NB113_121.out _; (with_reducible repeat (first | refine blk_drewN ?_ _ | refine blk_drew ?_ | refine blk_alloc ?_ _)); refine blk_far ?_ NB113_121.out _; (with_reducible repeat (first | refine blk_drewN ?_ _ | refine blk_drew ?_ | refine blk_alloc ?_ _)); exact BK113.out⟩, ⟨by (with_reducible repeat (first | refine blk_drewN ?_ _ | refine blk_drew ?_ | refine blk_alloc ?_ _)); refine blk_put (cs := #[.slice Ao20 t114.length co20, .bool t117, .int .i64 t118, .int .i64 0]) ?_ 3 _ rfl; (with_reducible repeat (first | refine blk_drewN ?_ _ | refine blk_drew ?_ | refine blk_alloc ?_ _)); refine blk_put (cs := #[.slice Ao20 t114.length co20, .bool t117, .int .i64 0, .int .i64 0]) ?_ 2 _ rfl; (with_reducible repeat (first | refine blk_drewN ?_ _ | refine blk_drew ?_ | refine blk_alloc ?_ _)); refine blk_put (cs := #[.slice Ao20 t114.length co20, .bool false, .int .i64 0, .int .i64 0]) ?_ 1 _ rfl; (with_reducible repeat (first | refine blk_drewN ?_ _ | refine blk_drew ?_ | refine blk_alloc ?_ _)); refine blk_put (cs := #[.slice none 0 0, .bool false, .int .i64 0, .int .i64 0]) ?_ 0 _ rfl; (with_reducible repeat (first | refine blk_drewN ?_ _ | refine blk_drew ?_ | refine blk_alloc ?_ _)); exact BK121.out⟩, ⟨by repeat (first | (with_reducible first | exact HB.out | apply below_alloc | apply pw_below_drewN | apply below_drew1 | refine below_set ?_ GE113.out | refine below_set ?_ GE121.out) | exact HB.out)⟩⟩
          case rest =>
            clear HC13
            try clear c1
            try clear c2
            try clear p2
            try clear c5
            try clear c8
            try clear c8b0
            try clear c8b1
            try clear c9
            try clear c9b0
            try clear c9b1
            try clear c10
            try clear c19
            try clear c20
            try clear c21
            try clear c23
            try clear c24
            try clear c26
            try clear hcz17_0
            try clear hcz17_1
            try clear hcz17_2
            try clear hcz17_3
            try clear hcz22_0
            try clear hcz22_1
            try clear hcz22_2
            try clear hcz22_3
            try clear hcz27_0
            try clear hcz27_1
            try clear hcz27_2
            try clear hcz27_3
            try clear hcz28_0
            try clear hcz28_1
            try clear hcz28_2
            try clear hcz28_3
            try clear hfz17_0
            try clear hfz17_1
            try clear hfz17_2
            try clear hfz17_3
            try clear hfz22_0
            try clear hfz22_1
            try clear hfz22_2
            try clear hfz22_3
            try clear hfz27_0
            try clear hfz27_1
            try clear hfz27_2
            try clear hfz27_3
            try clear hfz28_0
            try clear hfz28_1
            try clear hfz28_2
            try clear hfz28_3
            try clear p2
            obtain ⟨kq, x50_12, rfl, HA, HJ12, HO_114000, HO_122000, BK113, BK121, HB⟩ := hcut
            cases kq with
            | zero => exact absurd HA.out (by simp [pannierlaw12_PushPieces.j1])
            | succ kj12 =>
              have H := HA.out
              clear HA
              simp only [pannierlaw12_PushPieces.j1] at H
              by_cases c30 : x50_12 = true
              · subst c30
                have H1 : (some false) = some r := by rw [if_pos rfl] at H; exact H
                clear H
                have H := H1
                clear H1
                obtain rfl := Option.some.inj H
                go_wp2
                go_ret
                exact ⟨by first | rfl | (simp [errW_none, errW_some] <;> rfl) | (simp [*, errW_none, errW_some] <;> rfl), by repeat (first | (with_reducible first | exact HB.out | apply below_alloc | apply pw_below_drewN | apply below_drew1 | refine below_set ?_ GE113.out | refine below_set ?_ GE121.out) | exact HB.out)⟩
              · replace c30 := Bool.eq_false_iff.mpr c30
                subst c30
                have H1 : (if t109 = true then (pannierlaw12_PushPieces.j2 kj12 l0 l1 l2 false t106 t109 t110 t111) else (pannierlaw12_PushPieces.j2 kj12 l0 l1 l2 (t110 == 5) t106 t109 t110 t111)) = some r := by rw [if_neg (show ¬ (false = true) by decide)] at H; exact H
                clear H
                have H := H1
                clear H1
                have HC31 := Aside0.mk H
                clear H
                go_upto_region 9 with (fail)
                go_cut [58] (fun v58 wc => ∃ (kq : Nat) (x58_30 : Bool), v58 = .bool x58_30 ∧ Aside0 (pannierlaw12_PushPieces.j2 kq l0 l1 l2 x58_30 t106 t109 t110 t111 = some r) ∧ Aside0 (kq ≤ kj12) ∧ Aside0 (Kd.R k57 57 wc w.heap.size (fun k_ => some k_ ≠ ((.slice Ao20 t114.length co20) : Value).ownBlock) (.slice Ao16 t106.length co16) t106) ∧ Aside0 (Kd.R k57 57 wc w.heap.size (fun k_ => some k_ ≠ ((.slice Ao16 t106.length co16) : Value).ownBlock) (.slice Ao20 t114.length co20) t114) ∧ Aside0 (wc.heap[gb113]? = some (.cells #[(.slice Ao16 t106.length co16), .bool t109, .int .i64 t110, .int .i64 t111] 49 (0, 0))) ∧ Aside0 (wc.heap[gb121]? = some (.cells #[(.slice Ao20 t114.length co20), .bool t117, .int .i64 t118, .int .i64 t119] 49 (0, 0))) ∧ Aside0 (Below w.heap.size w wc))
                case first =>
                  have H := HC31.out
                  clear HC31
                  by_cases c32 : t109 = true
                  · subst c32
                    have H1 : (pannierlaw12_PushPieces.j2 kj12 l0 l1 l2 false t106 true t110 t111) = some r := by rw [if_pos rfl] at H; exact H
                    clear H
                    have H := H1
                    clear H1
                    have H' := Aside0.mk H
                    clear H
                    have hnb33 := NB113_121.out
                    have hnc33 := NB121_113.out
                    have hcz34_0 : wc.cell? ⟨gb113, 0, none⟩ = some (.slice Ao16 t106.length co16) := (blk_cell BK113.out 0).trans rfl
                    have hcz34_1 : wc.cell? ⟨gb113, 1, none⟩ = some (.bool true) := (blk_cell BK113.out 1).trans rfl
                    have hcz34_2 : wc.cell? ⟨gb113, 2, none⟩ = some (.int .i64 t110) := (blk_cell BK113.out 2).trans rfl
                    have hcz34_3 : wc.cell? ⟨gb113, 3, none⟩ = some (.int .i64 t111) := (blk_cell BK113.out 3).trans rfl
                    have hfz34_0 := blk_frozen BK113.out 0
                    have hfz34_1 := blk_frozen BK113.out 1
                    have hfz34_2 := blk_frozen BK113.out 2
                    have hfz34_3 := blk_frozen BK113.out 3
                    go_wp2
                    go_meet
                    case rel => exact ⟨_, (false), (by first | rfl | (simp; done) | (simp; exact (fun l_ : List UInt8 => (by cases l_ <;> rfl : l_.isEmpty = !(l_ != []))) _) | (simp; exact (fun (x_ : Bool) (l_ : List UInt8) => (by cases x_ <;> cases l_ <;> rfl : (x_ == !l_.isEmpty) = !(x_ != (l_ != [])))) _ _) | (simp [*]; done)), H', ⟨by have := HJ5.out; have := HJ12.out; first | omega | exact Nat.le_refl _⟩, ⟨by (with_reducible repeat (first | apply Kd.R_alloc | apply Kd.R_drewN | apply Kd.R_drew)); exact HO_114000.out⟩, ⟨by (with_reducible repeat (first | apply Kd.R_alloc | apply Kd.R_drewN | apply Kd.R_drew)); exact HO_122000.out⟩, ⟨by (with_reducible repeat (first | refine blk_drewN ?_ _ | refine blk_drew ?_ | refine blk_alloc ?_ _)); exact BK113.out⟩, ⟨by (with_reducible repeat (first | refine blk_drewN ?_ _ | refine blk_drew ?_ | refine blk_alloc ?_ _)); exact BK121.out⟩, ⟨by repeat (first | (with_reducible first | exact HB.out | apply below_alloc | apply pw_below_drewN | apply below_drew1 | refine below_set ?_ GE113.out | refine below_set ?_ GE121.out) | exact HB.out)⟩⟩
                  · replace c32 := Bool.eq_false_iff.mpr c32
                    subst c32
                    have H1 : (pannierlaw12_PushPieces.j2 kj12 l0 l1 l2 (t110 == 5) t106 false t110 t111) = some r := by rw [if_neg (show ¬ (false = true) by decide)] at H; exact H
                    clear H
                    have H := H1
                    clear H1
                    have H' := Aside0.mk H
                    clear H
                    have hnb35 := NB113_121.out
                    have hnc35 := NB121_113.out
                    have hcz36_0 : wc.cell? ⟨gb113, 0, none⟩ = some (.slice Ao16 t106.length co16) := (blk_cell BK113.out 0).trans rfl
                    have hcz36_1 : wc.cell? ⟨gb113, 1, none⟩ = some (.bool false) := (blk_cell BK113.out 1).trans rfl
                    have hcz36_2 : wc.cell? ⟨gb113, 2, none⟩ = some (.int .i64 t110) := (blk_cell BK113.out 2).trans rfl
                    have hcz36_3 : wc.cell? ⟨gb113, 3, none⟩ = some (.int .i64 t111) := (blk_cell BK113.out 3).trans rfl
                    have hfz36_0 := blk_frozen BK113.out 0
                    have hfz36_1 := blk_frozen BK113.out 1
                    have hfz36_2 := blk_frozen BK113.out 2
                    have hfz36_3 := blk_frozen BK113.out 3
                    go_wp2
                    go_meet
                    case rel => exact ⟨_, ((t110 == 5)), (by first | rfl | (simp; done) | (simp; exact (fun l_ : List UInt8 => (by cases l_ <;> rfl : l_.isEmpty = !(l_ != []))) _) | (simp; exact (fun (x_ : Bool) (l_ : List UInt8) => (by cases x_ <;> cases l_ <;> rfl : (x_ == !l_.isEmpty) = !(x_ != (l_ != [])))) _ _) | (simp [*]; done)), H', ⟨by have := HJ5.out; have := HJ12.out; first | omega | exact Nat.le_refl _⟩, ⟨by (with_reducible repeat (first | apply Kd.R_alloc | apply Kd.R_drewN | apply Kd.R_drew)); exact HO_114000.out⟩, ⟨by (with_reducible repeat (first | apply Kd.R_alloc | apply Kd.R_drewN | apply Kd.R_drew)); exact HO_122000.out⟩, ⟨by (with_reducible repeat (first | refine blk_drewN ?_ _ | refine blk_drew ?_ | refine blk_alloc ?_ _)); exact BK113.out⟩, ⟨by (with_reducible repeat (first | refine blk_drewN ?_ _ | refine blk_drew ?_ | refine blk_alloc ?_ _)); exact BK121.out⟩, ⟨by repeat (first | (with_reducible first | exact HB.out | apply below_alloc | apply pw_below_drewN | apply below_drew1 | refine below_set ?_ GE113.out | refine below_set ?_ GE121.out) | exact HB.out)⟩⟩
                case rest =>
                  clear HC31
                  try clear c1
                  try clear c2
                  try clear p2
                  try clear c3
                  try clear c5
                  try clear c8
                  try clear c8b0
                  try clear c8b1
                  try clear c9
                  try clear c9b0
                  try clear c9b1
                  try clear c10
                  try clear c19
                  try clear c20
                  try clear c21
                  try clear c23
                  try clear c24
                  try clear c26
                  try clear c30
                  try clear c32
                  try clear c33
                  try clear c35
                  try clear hcz17_0
                  try clear hcz17_1
                  try clear hcz17_2
                  try clear hcz17_3
                  try clear hcz22_0
                  try clear hcz22_1
                  try clear hcz22_2
                  try clear hcz22_3
                  try clear hcz27_0
                  try clear hcz27_1
                  try clear hcz27_2
                  try clear hcz27_3
                  try clear hcz28_0
                  try clear hcz28_1
                  try clear hcz28_2
                  try clear hcz28_3
                  try clear hcz34_0
                  try clear hcz34_1
                  try clear hcz34_2
                  try clear hcz34_3
                  try clear hcz36_0
                  try clear hcz36_1
                  try clear hcz36_2
                  try clear hcz36_3
                  try clear hfz17_0
                  try clear hfz17_1
                  try clear hfz17_2
                  try clear hfz17_3
                  try clear hfz22_0
                  try clear hfz22_1
                  try clear hfz22_2
                  try clear hfz22_3
                  try clear hfz27_0
                  try clear hfz27_1
                  try clear hfz27_2
                  try clear hfz27_3
                  try clear hfz28_0
                  try clear hfz28_1
                  try clear hfz28_2
                  try clear hfz28_3
                  try clear hfz34_0
                  try clear hfz34_1
                  try clear hfz34_2
                  try clear hfz34_3
                  try clear hfz36_0
                  try clear hfz36_1
                  try clear hfz36_2
                  try clear hfz36_3
                  try clear p2
                  obtain ⟨kq, x58_30, rfl, HA, HJ30, HO_114000, HO_122000, BK113, BK121, HB⟩ := hcut
                  cases kq with
                  | zero => exact absurd HA.out (by simp [pannierlaw12_PushPieces.j2])
                  | succ kj30 =>
                    have H := HA.out
                    clear HA
                    simp only [pannierlaw12_PushPieces.j2] at H
                    by_cases c37 : x58_30 = true
                    · subst c37
                      have H1 : (some true) = some r := by rw [if_pos rfl] at H; exact H
                      clear H
                      have H := H1
                      clear H1
                      obtain rfl := Option.some.inj H
                      go_wp2
                      go_ret
                      exact ⟨by first | rfl | (simp [errW_none, errW_some] <;> rfl) | (simp [*, errW_none, errW_some] <;> rfl), by repeat (first | (with_reducible first | exact HB.out | apply below_alloc | apply pw_below_drewN | apply below_drew1 | refine below_set ?_ GE113.out | refine below_set ?_ GE121.out) | exact HB.out)⟩
                    · replace c37 := Bool.eq_false_iff.mpr c37
                      subst c37
                      have H1 : ((some (([] : List Int) : List Int)).bind fun y123 => (if y123.length + l0.length < 140737488355328 then ((some (y123 ++ l0 : List Int)).bind fun y126 => (if y126.length + l1.length < 140737488355328 then ((pannierlaw12_fed.f (y126 ++ l1) l2).bind fun bt132 => (if bt132.2.2.2.2 = true then ((pannierlaw12_same.f kj30 t106 t109 t110 t111 bt132.1 bt132.2.1 bt132.2.2.1 bt132.2.2.2.1).bind fun t140 => (some t140)) else (some false))) else (none))) else (none))) = some r := by rw [if_neg (show ¬ (false = true) by decide)] at H; exact H
                      clear H
                      have H := H1
                      clear H1
                      obtain ⟨y123, hy123⟩ : ∃ y_ : List Int, y_ = (([] : List Int)) := ⟨_, rfl⟩
                      replace H : (if y123.length + l0.length < 140737488355328 then ((some (y123 ++ l0 : List Int)).bind fun y126 => (if y126.length + l1.length < 140737488355328 then ((pannierlaw12_fed.f (y126 ++ l1) l2).bind fun bt132 => (if bt132.2.2.2.2 = true then ((pannierlaw12_same.f kj30 t106 t109 t110 t111 bt132.1 bt132.2.1 bt132.2.2.1 bt132.2.2.2.1).bind fun t140 => (some t140)) else (some false))) else (none))) else (none)) = some r := by first | (rw [hy123]; with_reducible exact H) | (have H2_ := (Option.bind_some _ _).symm.trans H; rw [hy123]; with_reducible exact H2_) | (have H2_ := (Option.bind_some _ _).symm.trans H; with_reducible exact H2_) | with_reducible exact H | (rw [hy123]; exact H) | exact H
                      have Ny123 := Aside0.mk hy123
                      clear hy123
                      by_cases c38 : y123.length + l0.length < 140737488355328
                      · rw [if_pos c38] at H
                        have LMc38 := Aside0.mk c38
                        clear c38
                        obtain ⟨y126, hy126⟩ : ∃ y_ : List Int, y_ = (y123 ++ l0) := ⟨_, rfl⟩
                        replace H : (if y126.length + l1.length < 140737488355328 then ((pannierlaw12_fed.f (y126 ++ l1) l2).bind fun bt132 => (if bt132.2.2.2.2 = true then ((pannierlaw12_same.f kj30 t106 t109 t110 t111 bt132.1 bt132.2.1 bt132.2.2.1 bt132.2.2.2.1).bind fun t140 => (some t140)) else (some false))) else (none)) = some r := by first | (rw [hy126]; with_reducible exact H) | (have H2_ := (Option.bind_some _ _).symm.trans H; rw [hy126]; with_reducible exact H2_) | (have H2_ := (Option.bind_some _ _).symm.trans H; with_reducible exact H2_) | with_reducible exact H | (rw [hy126]; exact H) | exact H
                        have Ny126 := Aside0.mk hy126
                        clear hy126
                        by_cases c39 : y126.length + l1.length < 140737488355328
                        · rw [if_pos c39] at H
                          have LMc39 := Aside0.mk c39
                          clear c39
                          obtain ⟨y129, hy129⟩ : ∃ y_ : List Int, y_ = (y126 ++ l1) := ⟨_, rfl⟩
                          replace H : ((pannierlaw12_fed.f y129 l2).bind fun bt132 => (if bt132.2.2.2.2 = true then ((pannierlaw12_same.f kj30 t106 t109 t110 t111 bt132.1 bt132.2.1 bt132.2.2.1 bt132.2.2.2.1).bind fun t140 => (some t140)) else (some false))) = some r := by first | (rw [hy129]; with_reducible exact H) | (have H2_ := (Option.bind_some _ _).symm.trans H; rw [hy129]; with_reducible exact H2_) | (have H2_ := (Option.bind_some _ _).symm.trans H; with_reducible exact H2_) | with_reducible exact H | (rw [hy129]; exact H) | exact H
                          have Ny129 := Aside0.mk hy129
                          clear hy129
                          replace H := Option.bind_eq_some_iff.mp H
                          obtain ⟨⟨t132, t135, t136, t137, t138⟩, A400, H⟩ := H
                          replace H : (if t138 = true then ((pannierlaw12_same.f kj30 t106 t109 t110 t111 t132 t135 t136 t137).bind fun t140 => (some t140)) else (some false)) = some r := H
                          have A40 := Aside0.mk A400
                          clear A400
                          by_cases c41 : t138 = true
                          · subst c41
                            have H1 : ((pannierlaw12_same.f kj30 t106 t109 t110 t111 t132 t135 t136 t137).bind fun t140 => (some t140)) = some r := by rw [if_pos rfl] at H; exact H
                            clear H
                            have H := H1
                            clear H1
                            replace H := Option.bind_eq_some_iff.mp H
                            obtain ⟨t140, A420, H⟩ := H
                            replace H : (some t140) = some r := H
                            have A42 := Aside0.mk A420
                            clear A420
                            obtain rfl := Option.some.inj H
                            go_wp2_with (first | ((with_reducible refine gate_dst (N := 60) rfl ?_); (try (refine gate_guard (by rfl) ?_; dsimp only)); refine Kd.R_lit (Kd.int .u8) _ 5 ?hg (N := 60) ?hd (xs := ([] : List Int)) (inner := []) (ok := fun _ => True) (okp := fun _ => True) ?hr ?hp (fun _ hk => hk) trivial (Below.refl _ _) (Nat.le_refl _) (by simp) ?_; (case hd => rfl); (case hg => rfl); (case hr => first | (go_simp; done) | (go_simp; rfl)); (case hp => exact (Reps.none _ _)); intro v124 w43 ho44 hb hg_ hnew_; clear hg_ hnew_; (first | rw [← Ny123.out] at ho44 | (simp only [Int.reduceToNat] at ho44; rw [← Ny123.out] at ho44)); have n0_ := Aside0.mk (Kd.R_below (by (with_reducible repeat (first | apply Kd.R_alloc | apply Kd.R_drewN | apply Kd.R_drew)); exact HO_114000.out) hb); have n1_ := Aside0.mk (Kd.R_below (by (with_reducible repeat (first | apply Kd.R_alloc | apply Kd.R_drewN | apply Kd.R_drew)); exact HO_122000.out) hb); have n2_ := Aside0.mk (Kd.R_lower ho44 (below_size (by repeat (first | (with_reducible first | exact HB.out | apply below_alloc | apply pw_below_drewN | apply below_drew1 | refine below_set ?_ GE113.out | refine below_set ?_ GE121.out) | exact HB.out)))); have n3_ := Aside0.mk (blk_below (g := gb113) (o := .cells #[.slice Ao16 t106.length co16, .bool t109, .int .i64 t110, .int .i64 t111] 49 (0, 0)) (by (with_reducible repeat (first | refine blk_drewN ?_ _ | refine blk_drew ?_ | refine blk_alloc ?_ _)); exact BK113.out) hb); have n4_ := Aside0.mk (blk_below (g := gb121) (o := .cells #[.slice Ao20 t114.length co20, .bool t117, .int .i64 t118, .int .i64 t119] 49 (0, 0)) (by (with_reducible repeat (first | refine blk_drewN ?_ _ | refine blk_drew ?_ | refine blk_alloc ?_ _)); exact BK121.out) hb); have n5_ := Aside0.mk (below_step (by repeat (first | (with_reducible first | exact HB.out | apply below_alloc | apply pw_below_drewN | apply below_drew1 | refine below_set ?_ GE113.out | refine below_set ?_ GE121.out) | exact HB.out)) hb); clear HO_114000; clear HO_122000; clear BK113; clear BK121; clear HB; have HO_114000 := n0_; have HO_122000 := n1_; have HO125 := n2_; have BK113 := n3_; have BK121 := n4_; have HB := n5_; clear n0_ n1_ n2_ n3_ n4_ n5_; clear hb ho44) | ((with_reducible refine gate_builtin (b := .append) (xs := #[.tmp 60, .tmp 61]) rfl ?_); (try (refine gate_guard (by rfl) ?_; dsimp only)); at_builtin; refine Kd.R_append_rows (Kd.int .u8) (w0 := w) w.heap.size rfl (.tmp 60) (.tmp 61) 32 5 (.int .u8 0) 1 rfl Tryz.underlying32 info5 rfl (by decide) (by omega) v124 y123 l0 _ _ _ (fun _ => True) (fun _ => False) rfl rfl ?aO ?aR (fun _ _ h => h) (fun _ h => h.elim) ?aF ?aB ?aS ?aL ?_; (case aR => repeat (first | exact (Kd.C_below HR0.out HB.out) | (with_reducible refine Kd.C_alloc ?_ _) | (with_reducible refine Kd.C_drewN ?_ _) | (with_reducible refine Kd.C_drew ?_))); (case aB => exact (by repeat (first | (with_reducible first | exact HB.out | apply below_alloc | apply pw_below_drewN | apply below_drew1 | refine below_set ?_ GE113.out | refine below_set ?_ GE121.out) | exact HB.out))); (case aF => exact (fun _ _ => trivial)); (case aO => exact (by (with_reducible repeat (first | apply Kd.R_alloc | apply Kd.R_drewN | apply Kd.R_drew)); exact HO125.out)); (case aS => exact (below_size (by repeat (first | (with_reducible first | exact HB.out | apply below_alloc | apply pw_below_drewN | apply below_drew1 | refine below_set ?_ GE113.out | refine below_set ?_ GE121.out) | exact HB.out)))); (case aL => have := LMc38.out; omega); intro v127 w45 ho hb hg hat; rw [← Ny126.out] at ho; have n0_ := Aside0.mk (Kd.R_over' (by (with_reducible repeat (first | apply Kd.R_alloc | apply Kd.R_drewN | apply Kd.R_drew)); exact HO_114000.out) (Kd.R_typed (by (with_reducible repeat (first | apply Kd.R_alloc | apply Kd.R_drewN | apply Kd.R_drew)); exact HO125.out)) (by decide) hg); have n1_ := Aside0.mk (Kd.R_over' (by (with_reducible repeat (first | apply Kd.R_alloc | apply Kd.R_drewN | apply Kd.R_drew)); exact HO_122000.out) (Kd.R_typed (by (with_reducible repeat (first | apply Kd.R_alloc | apply Kd.R_drewN | apply Kd.R_drew)); exact HO125.out)) (by decide) hg); have n2_ := Aside0.mk (blk_grown (g := gb113) (o := .cells #[.slice Ao16 t106.length co16, .bool t109, .int .i64 t110, .int .i64 t111] 49 (0, 0)) (by (with_reducible repeat (first | refine blk_drewN ?_ _ | refine blk_drew ?_ | refine blk_alloc ?_ _)); exact BK113.out) hg (Kd.R_ne HO125.out BK113.out (by decide))); have n3_ := Aside0.mk (blk_grown (g := gb121) (o := .cells #[.slice Ao20 t114.length co20, .bool t117, .int .i64 t118, .int .i64 t119] 49 (0, 0)) (by (with_reducible repeat (first | refine blk_drewN ?_ _ | refine blk_drew ?_ | refine blk_alloc ?_ _)); exact BK121.out) hg (Kd.R_ne HO125.out BK121.out (by decide))); have n4_ := Aside0.mk (hb); have n5_ := Aside0.mk (ho); clear HO_114000; clear HO_122000; clear BK113; clear BK121; clear HB; clear HO125; have HO_114000 := n0_; have HO_122000 := n1_; have BK113 := n2_; have BK121 := n3_; have HB := n4_; have HO128 := n5_; clear n0_ n1_ n2_ n3_ n4_ n5_; clear ho hb hg hat) | ((with_reducible refine gate_builtin (b := .append) (xs := #[.tmp 62, .tmp 63]) rfl ?_); (try (refine gate_guard (by rfl) ?_; dsimp only)); at_builtin; refine Kd.R_append_rows (Kd.int .u8) (w0 := w) w.heap.size rfl (.tmp 62) (.tmp 63) 32 5 (.int .u8 0) 1 rfl Tryz.underlying32 info5 rfl (by decide) (by omega) v127 y126 l1 _ _ _ (fun _ => True) (fun _ => False) rfl rfl ?aO ?aR (fun _ _ h => h) (fun _ h => h.elim) ?aF ?aB ?aS ?aL ?_; (case aR => repeat (first | exact (Kd.C_below HR1.out HB.out) | (with_reducible refine Kd.C_alloc ?_ _) | (with_reducible refine Kd.C_drewN ?_ _) | (with_reducible refine Kd.C_drew ?_))); (case aB => exact (by repeat (first | (with_reducible first | exact HB.out | apply below_alloc | apply pw_below_drewN | apply below_drew1 | refine below_set ?_ GE113.out | refine below_set ?_ GE121.out) | exact HB.out))); (case aF => exact (fun _ _ => trivial)); (case aO => exact (by (with_reducible repeat (first | apply Kd.R_alloc | apply Kd.R_drewN | apply Kd.R_drew)); exact HO128.out)); (case aS => exact (below_size (by repeat (first | (with_reducible first | exact HB.out | apply below_alloc | apply pw_below_drewN | apply below_drew1 | refine below_set ?_ GE113.out | refine below_set ?_ GE121.out) | exact HB.out)))); (case aL => have := LMc39.out; omega); intro v130 w46 ho hb hg hat; rw [← Ny129.out] at ho; have n0_ := Aside0.mk (Kd.R_over' (by (with_reducible repeat (first | apply Kd.R_alloc | apply Kd.R_drewN | apply Kd.R_drew)); exact HO_114000.out) (Kd.R_typed (by (with_reducible repeat (first | apply Kd.R_alloc | apply Kd.R_drewN | apply Kd.R_drew)); exact HO128.out)) (by decide) hg); have n1_ := Aside0.mk (Kd.R_over' (by (with_reducible repeat (first | apply Kd.R_alloc | apply Kd.R_drewN | apply Kd.R_drew)); exact HO_122000.out) (Kd.R_typed (by (with_reducible repeat (first | apply Kd.R_alloc | apply Kd.R_drewN | apply Kd.R_drew)); exact HO128.out)) (by decide) hg); have n2_ := Aside0.mk (blk_grown (g := gb113) (o := .cells #[.slice Ao16 t106.length co16, .bool t109, .int .i64 t110, .int .i64 t111] 49 (0, 0)) (by (with_reducible repeat (first | refine blk_drewN ?_ _ | refine blk_drew ?_ | refine blk_alloc ?_ _)); exact BK113.out) hg (Kd.R_ne HO128.out BK113.out (by decide))); have n3_ := Aside0.mk (blk_grown (g := gb121) (o := .cells #[.slice Ao20 t114.length co20, .bool t117, .int .i64 t118, .int .i64 t119] 49 (0, 0)) (by (with_reducible repeat (first | refine blk_drewN ?_ _ | refine blk_drew ?_ | refine blk_alloc ?_ _)); exact BK121.out) hg (Kd.R_ne HO128.out BK121.out (by decide))); have n4_ := Aside0.mk (hb); have n5_ := Aside0.mk (ho); clear HO_114000; clear HO_122000; clear BK113; clear BK121; clear HB; clear HO128; have HO_114000 := n0_; have HO_122000 := n1_; have BK113 := n2_; have BK121 := n3_; have HB := n4_; have HO131 := n5_; clear n0_ n1_ n2_ n3_ n4_ n5_; clear ho hb hg hat; obtain ⟨Ao47, co47, eo47⟩ := Kd.R_slice HO131.out; subst eo47) | ((with_reducible refine gate_callee (f := 20) rfl ?_); refine goesL_ (some 66) rfl rfl Tryz.func20 (by kernel_rfl) rfl #[.slice Ao47 y129.length co47, .slice A2 l2.length c2] rfl (by (try simp only [List.map_toArray, List.map_cons, List.map_nil]); first | done | rfl | (simp only [List.length_drop, List.length_take]; rfl)) ?_; (with_reducible refine (pannierlaw12_fed.calls _ _ y129 _ _ l2 t132 t135 t136 t137 true _ ?side1 ?side2 ?side3 ?side4 ?side5 A40.out).mono ?_); (case side1 => repeat (first | exact (Kd.R_reads' HO131.out).2.2 | (with_reducible refine Kd.C_alloc ?_ _) | (with_reducible refine Kd.C_drewN ?_ _) | (with_reducible refine Kd.C_drew ?_))); (case side2 => exact (Kd.R_reads' HO131.out).2.1); (case side3 => repeat (first | exact (Kd.C_below HR2.out HB.out) | (with_reducible refine Kd.C_alloc ?_ _) | (with_reducible refine Kd.C_drewN ?_ _) | (with_reducible refine Kd.C_drew ?_))); (case side4 => exact HC2.out); (case side5 => exact HE_.out.below (by repeat (first | (with_reducible first | exact HB.out | apply below_alloc | apply pw_below_drewN | apply below_drew1 | refine below_set ?_ GE113.out | refine below_set ?_ GE121.out) | exact HB.out))); rintro e w48 ⟨v133, rfl, ho0, hb⟩; refine ⟨_, rfl, ?_⟩; have n0_ := Aside0.mk (Kd.R_elder' (by (with_reducible repeat (first | apply Kd.R_alloc | apply Kd.R_drewN | apply Kd.R_drew)); exact HO_114000.out) (Kd.R_base ho0) hb); have n1_ := Aside0.mk (Kd.R_elder' (by (with_reducible repeat (first | apply Kd.R_alloc | apply Kd.R_drewN | apply Kd.R_drew)); exact HO_122000.out) (Kd.R_base ho0) hb); have n2_ := Aside0.mk (Kd.R_below (by (with_reducible repeat (first | apply Kd.R_alloc | apply Kd.R_drewN | apply Kd.R_drew)); exact HO131.out) hb); have n3_ := Aside0.mk (Kd.R_lower (Kd.R_new' (Kd.R_new' ho0 (Kd.R_lt (by (with_reducible repeat (first | apply Kd.R_alloc | apply Kd.R_drewN | apply Kd.R_drew)); exact HO_114000.out))) (Kd.R_lt (by (with_reducible repeat (first | apply Kd.R_alloc | apply Kd.R_drewN | apply Kd.R_drew)); exact HO_122000.out))) (below_size (by repeat (first | (with_reducible first | exact HB.out | apply below_alloc | apply pw_below_drewN | apply below_drew1 | refine below_set ?_ GE113.out | refine below_set ?_ GE121.out) | exact HB.out)))); have n4_ := Aside0.mk (blk_below (g := gb113) (o := .cells #[.slice Ao16 t106.length co16, .bool t109, .int .i64 t110, .int .i64 t111] 49 (0, 0)) (by (with_reducible repeat (first | refine blk_drewN ?_ _ | refine blk_drew ?_ | refine blk_alloc ?_ _)); exact BK113.out) hb); have n5_ := Aside0.mk (blk_below (g := gb121) (o := .cells #[.slice Ao20 t114.length co20, .bool t117, .int .i64 t118, .int .i64 t119] 49 (0, 0)) (by (with_reducible repeat (first | refine blk_drewN ?_ _ | refine blk_drew ?_ | refine blk_alloc ?_ _)); exact BK121.out) hb); have n6_ := Aside0.mk (below_step (by repeat (first | (with_reducible first | exact HB.out | apply below_alloc | apply pw_below_drewN | apply below_drew1 | refine below_set ?_ GE113.out | refine below_set ?_ GE121.out) | exact HB.out)) hb); clear HO_114000; clear HO_122000; clear HO131; clear BK113; clear BK121; clear HB; have HO_114000 := n0_; have HO_122000 := n1_; have HO131 := n2_; have HO134 := n3_; have BK113 := n4_; have BK121 := n5_; have HB := n6_; clear n0_ n1_ n2_ n3_ n4_ n5_ n6_; (try clear hb); (try clear hb2); (try clear hk); (try clear hi); (try clear ho0)) | ((with_reducible refine gate_dst (N := 11) rfl ?_); (try (refine gate_guard (by rfl) ?_; dsimp only)); refine box_event ?hg (N := 11) ?hd (cs := #[.slice none 0 0, .bool false, .int .i64 0, .int .i64 0]) (t := 49) ?hr ?_; (case hd => rfl); (case hg => rfl); (case hr => first | (go_simp; done) | (go_simp; rfl)); intro gb139 hg w49 hbox hb; have n0_ := Aside0.mk (Kd.R_below (by (with_reducible repeat (first | apply Kd.R_alloc | apply Kd.R_drewN | apply Kd.R_drew)); exact HO_114000.out) hb); have n1_ := Aside0.mk (Kd.R_below (by (with_reducible repeat (first | apply Kd.R_alloc | apply Kd.R_drewN | apply Kd.R_drew)); exact HO_122000.out) hb); have n2_ := Aside0.mk (Kd.R_below (by (with_reducible repeat (first | apply Kd.R_alloc | apply Kd.R_drewN | apply Kd.R_drew)); exact HO131.out) hb); have n3_ := Aside0.mk (Kd.R_below (by (with_reducible repeat (first | apply Kd.R_alloc | apply Kd.R_drewN | apply Kd.R_drew)); exact HO134.out) hb); have n4_ := Aside0.mk (blk_below (g := gb113) (o := .cells #[.slice Ao16 t106.length co16, .bool t109, .int .i64 t110, .int .i64 t111] 49 (0, 0)) (by (with_reducible repeat (first | refine blk_drewN ?_ _ | refine blk_drew ?_ | refine blk_alloc ?_ _)); exact BK113.out) hb); have n5_ := Aside0.mk (blk_below (g := gb121) (o := .cells #[.slice Ao20 t114.length co20, .bool t117, .int .i64 t118, .int .i64 t119] 49 (0, 0)) (by (with_reducible repeat (first | refine blk_drewN ?_ _ | refine blk_drew ?_ | refine blk_alloc ?_ _)); exact BK121.out) hb); have n6_ := Aside0.mk (below_step (by repeat (first | (with_reducible first | exact HB.out | apply below_alloc | apply pw_below_drewN | apply below_drew1 | refine below_set ?_ GE113.out | refine below_set ?_ GE121.out) | exact HB.out)) hb); have n7_ := Aside0.mk (hbox); have n8_ := Aside0.mk ((by rw [hg]; exact (below_size (by repeat (first | (with_reducible first | exact HB.out | apply below_alloc | apply pw_below_drewN | apply below_drew1 | refine below_set ?_ GE113.out | refine below_set ?_ GE121.out) | exact HB.out))) : w.heap.size ≤ gb139)); have n9_ := Aside0.mk ((by rw [hg]; exact (below_size (by repeat (first | (with_reducible first | exact HB.out | apply below_alloc | apply pw_below_drewN | apply below_drew1 | refine below_set ?_ GE113.out | refine below_set ?_ GE121.out) | exact HB.out))) : w.heap.size ≤ gb139)); have n10_ := Aside0.mk ((by rw [hg]; exact Nat.ne_of_lt (blk_lt (g := gb113) (o := .cells #[.slice Ao16 t106.length co16, .bool t109, .int .i64 t110, .int .i64 t111] 49 (0, 0)) (by (with_reducible repeat (first | refine blk_drewN ?_ _ | refine blk_drew ?_ | refine blk_alloc ?_ _)); exact BK113.out)) : gb113 ≠ gb139)); have n11_ := Aside0.mk ((by rw [hg]; exact Nat.ne_of_gt (blk_lt (g := gb113) (o := .cells #[.slice Ao16 t106.length co16, .bool t109, .int .i64 t110, .int .i64 t111] 49 (0, 0)) (by (with_reducible repeat (first | refine blk_drewN ?_ _ | refine blk_drew ?_ | refine blk_alloc ?_ _)); exact BK113.out)) : gb139 ≠ gb113)); have n12_ := Aside0.mk ((by rw [hg]; exact Nat.ne_of_lt (blk_lt (g := gb121) (o := .cells #[.slice Ao20 t114.length co20, .bool t117, .int .i64 t118, .int .i64 t119] 49 (0, 0)) (by (with_reducible repeat (first | refine blk_drewN ?_ _ | refine blk_drew ?_ | refine blk_alloc ?_ _)); exact BK121.out)) : gb121 ≠ gb139)); have n13_ := Aside0.mk ((by rw [hg]; exact Nat.ne_of_gt (blk_lt (g := gb121) (o := .cells #[.slice Ao20 t114.length co20, .bool t117, .int .i64 t118, .int .i64 t119] 49 (0, 0)) (by (with_reducible repeat (first | refine blk_drewN ?_ _ | refine blk_drew ?_ | refine blk_alloc ?_ _)); exact BK121.out)) : gb139 ≠ gb121)); clear HO_114000; clear HO_122000; clear HO131; clear HO134; clear BK113; clear BK121; clear HB; have HO_114000 := n0_; have HO_122000 := n1_; have HO131 := n2_; have HO134 := n3_; have BK113 := n4_; have BK121 := n5_; have HB := n6_; have BK139 := n7_; have GW139 := n8_; have GE139 := n9_; have NB113_139 := n10_; have NB139_113 := n11_; have NB121_139 := n12_; have NB139_121 := n13_; clear n0_ n1_ n2_ n3_ n4_ n5_ n6_ n7_ n8_ n9_ n10_ n11_ n12_ n13_; clear hb hbox hg; obtain ⟨Ao50, co50, eo50⟩ := Kd.R_slice HO134.out; subst eo50; have hnb51 := NB139_113.out; have hnc51 := NB113_139.out; have hnb52 := NB139_121.out; have hnc52 := NB121_139.out; have hcz53_0 : w49.cell? ⟨gb139, 0, none⟩ = some (.slice none 0 0) := (blk_cell BK139.out 0).trans rfl; have hcz53_1 : w49.cell? ⟨gb139, 1, none⟩ = some (.bool false) := (blk_cell BK139.out 1).trans rfl; have hcz53_2 : w49.cell? ⟨gb139, 2, none⟩ = some (.int .i64 0) := (blk_cell BK139.out 2).trans rfl; have hcz53_3 : w49.cell? ⟨gb139, 3, none⟩ = some (.int .i64 0) := (blk_cell BK139.out 3).trans rfl; have hfz53_0 := blk_frozen BK139.out 0; have hfz53_1 := blk_frozen BK139.out 1; have hfz53_2 := blk_frozen BK139.out 2; have hfz53_3 := blk_frozen BK139.out 3; have hnb54 := NB113_121.out; have hnc54 := NB121_113.out; have hcz55_0 : w49.cell? ⟨gb113, 0, none⟩ = some (.slice Ao16 t106.length co16) := (blk_cell BK113.out 0).trans rfl; have hcz55_1 : w49.cell? ⟨gb113, 1, none⟩ = some (.bool t109) := (blk_cell BK113.out 1).trans rfl; have hcz55_2 : w49.cell? ⟨gb113, 2, none⟩ = some (.int .i64 t110) := (blk_cell BK113.out 2).trans rfl; have hcz55_3 : w49.cell? ⟨gb113, 3, none⟩ = some (.int .i64 t111) := (blk_cell BK113.out 3).trans rfl; have hfz55_0 := blk_frozen BK113.out 0; have hfz55_1 := blk_frozen BK113.out 1; have hfz55_2 := blk_frozen BK113.out 2; have hfz55_3 := blk_frozen BK113.out 3) | (go_at_call 21; (with_reducible refine (pannierlaw12_same.calls kj30 _ _ t106 t109 t110 t111 _ _ t132 t135 t136 t137 t140 _ ?side1 ?side2 ?side3 ?side4 A42.out).mono ?_); (case side1 => refine (Kd.R_reads' (e := 57) (base := w.heap.size) (ok := fun k_ => (some k_ ≠ (.slice Ao20 t114.length co20 : Value).ownBlock ∧ some k_ ≠ (.slice Ao50 t132.length co50 : Value).ownBlock)) (n := t106.length) (c := co16) ?_).2.2; exact (by (with_reducible repeat (first | apply Kd.R_alloc | apply Kd.R_drewN | apply Kd.R_drew)); exact (Kd.R_mono (Kd.R_far (p := ⟨gb139, 3, none⟩) (Kd.R_far (p := ⟨gb139, 2, none⟩) (Kd.R_far (p := ⟨gb139, 1, none⟩) (Kd.R_far (p := ⟨gb139, 0, none⟩) (Kd.R_types HO_114000.out BK139.out (by decide)) (fun _ hk => hk.2) (.slice Ao50 t132.length co50)) (fun _ hk => hk.2) (.bool t135)) (fun _ hk => hk.2) (.int .i64 t136)) (fun _ hk => hk.2) (.int .i64 t137)) (fun _ h_ => h_.1)))); (case side2 => exact (Kd.R_reads' HO_114000.out).2.1); (case side3 => refine (Kd.R_reads' (e := 57) (base := w.heap.size) (ok := fun k_ => ((True ∧ some k_ ≠ (.slice Ao16 t106.length co16 : Value).ownBlock) ∧ some k_ ≠ (.slice Ao20 t114.length co20 : Value).ownBlock)) (n := t132.length) (c := co50) ?_).2.2; exact (by (with_reducible repeat (first | apply Kd.R_alloc | apply Kd.R_drewN | apply Kd.R_drew)); exact (Kd.R_mono (Kd.R_far (p := ⟨gb139, 3, none⟩) (Kd.R_far (p := ⟨gb139, 2, none⟩) (Kd.R_far (p := ⟨gb139, 1, none⟩) (Kd.R_far (p := ⟨gb139, 0, none⟩) (Kd.R_types HO134.out BK139.out (by decide)) (fun _ hk => hk.2) (.slice Ao50 t132.length co50)) (fun _ hk => hk.2) (.bool t135)) (fun _ hk => hk.2) (.int .i64 t136)) (fun _ hk => hk.2) (.int .i64 t137)) (fun _ h_ => h_.1)))); (case side4 => exact (Kd.R_reads' HO134.out).2.1); rintro e w56 ⟨rfl, hb⟩; have n0_ := Aside0.mk (Kd.R_below (by (with_reducible repeat (first | apply Kd.R_alloc | apply Kd.R_drewN | apply Kd.R_drew)); exact (Kd.R_mono (Kd.R_far (p := ⟨gb139, 3, none⟩) (Kd.R_far (p := ⟨gb139, 2, none⟩) (Kd.R_far (p := ⟨gb139, 1, none⟩) (Kd.R_far (p := ⟨gb139, 0, none⟩) (Kd.R_types HO_114000.out BK139.out (by decide)) (fun _ hk => hk.2) (.slice Ao50 t132.length co50)) (fun _ hk => hk.2) (.bool t135)) (fun _ hk => hk.2) (.int .i64 t136)) (fun _ hk => hk.2) (.int .i64 t137)) (fun _ h_ => h_.1))) hb); have n1_ := Aside0.mk (Kd.R_below (by (with_reducible repeat (first | apply Kd.R_alloc | apply Kd.R_drewN | apply Kd.R_drew)); exact (Kd.R_mono (Kd.R_far (p := ⟨gb139, 3, none⟩) (Kd.R_far (p := ⟨gb139, 2, none⟩) (Kd.R_far (p := ⟨gb139, 1, none⟩) (Kd.R_far (p := ⟨gb139, 0, none⟩) (Kd.R_types HO_122000.out BK139.out (by decide)) (fun _ hk => hk.2) (.slice Ao50 t132.length co50)) (fun _ hk => hk.2) (.bool t135)) (fun _ hk => hk.2) (.int .i64 t136)) (fun _ hk => hk.2) (.int .i64 t137)) (fun _ h_ => h_.1))) hb); have n2_ := Aside0.mk (Kd.R_below (by (with_reducible repeat (first | apply Kd.R_alloc | apply Kd.R_drewN | apply Kd.R_drew)); exact (Kd.R_mono (Kd.R_far (p := ⟨gb139, 3, none⟩) (Kd.R_far (p := ⟨gb139, 2, none⟩) (Kd.R_far (p := ⟨gb139, 1, none⟩) (Kd.R_far (p := ⟨gb139, 0, none⟩) (Kd.R_types HO131.out BK139.out (by decide)) (fun _ hk => hk.2) (.slice Ao50 t132.length co50)) (fun _ hk => hk.2) (.bool t135)) (fun _ hk => hk.2) (.int .i64 t136)) (fun _ hk => hk.2) (.int .i64 t137)) (fun _ h_ => h_.1))) hb); have n3_ := Aside0.mk (Kd.R_below (by (with_reducible repeat (first | apply Kd.R_alloc | apply Kd.R_drewN | apply Kd.R_drew)); exact (Kd.R_mono (Kd.R_far (p := ⟨gb139, 3, none⟩) (Kd.R_far (p := ⟨gb139, 2, none⟩) (Kd.R_far (p := ⟨gb139, 1, none⟩) (Kd.R_far (p := ⟨gb139, 0, none⟩) (Kd.R_types HO134.out BK139.out (by decide)) (fun _ hk => hk.2) (.slice Ao50 t132.length co50)) (fun _ hk => hk.2) (.bool t135)) (fun _ hk => hk.2) (.int .i64 t136)) (fun _ hk => hk.2) (.int .i64 t137)) (fun _ h_ => h_.1))) hb); have n4_ := Aside0.mk (blk_below (g := gb113) (o := .cells #[.slice Ao16 t106.length co16, .bool t109, .int .i64 t110, .int .i64 t111] 49 (0, 0)) (by (with_reducible repeat (first | refine blk_drewN ?_ _ | refine blk_drew ?_ | refine blk_alloc ?_ _)); refine blk_far ?_ NB113_139.out _; (with_reducible repeat (first | refine blk_drewN ?_ _ | refine blk_drew ?_ | refine blk_alloc ?_ _)); refine blk_far ?_ NB113_139.out _; (with_reducible repeat (first | refine blk_drewN ?_ _ | refine blk_drew ?_ | refine blk_alloc ?_ _)); refine blk_far ?_ NB113_139.out _; (with_reducible repeat (first | refine blk_drewN ?_ _ | refine blk_drew ?_ | refine blk_alloc ?_ _)); refine blk_far ?_ NB113_139.out _; (with_reducible repeat (first | refine blk_drewN ?_ _ | refine blk_drew ?_ | refine blk_alloc ?_ _)); exact BK113.out) hb); have n5_ := Aside0.mk (blk_below (g := gb121) (o := .cells #[.slice Ao20 t114.length co20, .bool t117, .int .i64 t118, .int .i64 t119] 49 (0, 0)) (by (with_reducible repeat (first | refine blk_drewN ?_ _ | refine blk_drew ?_ | refine blk_alloc ?_ _)); refine blk_far ?_ NB121_139.out _; (with_reducible repeat (first | refine blk_drewN ?_ _ | refine blk_drew ?_ | refine blk_alloc ?_ _)); refine blk_far ?_ NB121_139.out _; (with_reducible repeat (first | refine blk_drewN ?_ _ | refine blk_drew ?_ | refine blk_alloc ?_ _)); refine blk_far ?_ NB121_139.out _; (with_reducible repeat (first | refine blk_drewN ?_ _ | refine blk_drew ?_ | refine blk_alloc ?_ _)); refine blk_far ?_ NB121_139.out _; (with_reducible repeat (first | refine blk_drewN ?_ _ | refine blk_drew ?_ | refine blk_alloc ?_ _)); exact BK121.out) hb); have n6_ := Aside0.mk (blk_below (g := gb139) (o := .cells #[.slice Ao50 t132.length co50, .bool t135, .int .i64 t136, .int .i64 t137] 49 (0, 0)) (by (with_reducible repeat (first | refine blk_drewN ?_ _ | refine blk_drew ?_ | refine blk_alloc ?_ _)); refine blk_put (cs := #[.slice Ao50 t132.length co50, .bool t135, .int .i64 t136, .int .i64 0]) ?_ 3 _ rfl; (with_reducible repeat (first | refine blk_drewN ?_ _ | refine blk_drew ?_ | refine blk_alloc ?_ _)); refine blk_put (cs := #[.slice Ao50 t132.length co50, .bool t135, .int .i64 0, .int .i64 0]) ?_ 2 _ rfl; (with_reducible repeat (first | refine blk_drewN ?_ _ | refine blk_drew ?_ | refine blk_alloc ?_ _)); refine blk_put (cs := #[.slice Ao50 t132.length co50, .bool false, .int .i64 0, .int .i64 0]) ?_ 1 _ rfl; (with_reducible repeat (first | refine blk_drewN ?_ _ | refine blk_drew ?_ | refine blk_alloc ?_ _)); refine blk_put (cs := #[.slice none 0 0, .bool false, .int .i64 0, .int .i64 0]) ?_ 0 _ rfl; (with_reducible repeat (first | refine blk_drewN ?_ _ | refine blk_drew ?_ | refine blk_alloc ?_ _)); exact BK139.out) hb); have n7_ := Aside0.mk (below_step (by repeat (first | (with_reducible first | exact HB.out | apply below_alloc | apply pw_below_drewN | apply below_drew1 | refine below_set ?_ GE113.out | refine below_set ?_ GE121.out | refine below_set ?_ GE139.out) | exact HB.out)) hb); clear HO_114000; clear HO_122000; clear HO131; clear HO134; clear BK113; clear BK121; clear BK139; clear HB; have HO_114000 := n0_; have HO_122000 := n1_; have HO131 := n2_; have HO134 := n3_; have BK113 := n4_; have BK121 := n5_; have BK139 := n6_; have HB := n7_; clear n0_ n1_ n2_ n3_ n4_ n5_ n6_ n7_; (try clear hb); (try clear hb2); (try clear hk); (try clear hi)))
                            go_ret
                            exact ⟨by first | rfl | (simp [errW_none, errW_some] <;> rfl) | (simp [*, errW_none, errW_some] <;> rfl), by repeat (first | (with_reducible first | exact HB.out | apply below_alloc | apply pw_below_drewN | apply below_drew1 | refine below_set ?_ GE113.out | refine below_set ?_ GE121.out | refine below_set ?_ GE139.out) | exact HB.out)⟩
                          · replace c41 := Bool.eq_false_iff.mpr c41
                            subst c41
                            have H1 : (some false) = some r := by rw [if_neg (show ¬ (false = true) by decide)] at H; exact H
                            clear H
                            have H := H1
                            clear H1
                            obtain rfl := Option.some.inj H
                            go_wp2_with (first | ((with_reducible refine gate_dst (N := 60) rfl ?_); (try (refine gate_guard (by rfl) ?_; dsimp only)); refine Kd.R_lit (Kd.int .u8) _ 5 ?hg (N := 60) ?hd (xs := ([] : List Int)) (inner := []) (ok := fun _ => True) (okp := fun _ => True) ?hr ?hp (fun _ hk => hk) trivial (Below.refl _ _) (Nat.le_refl _) (by simp) ?_; (case hd => rfl); (case hg => rfl); (case hr => first | (go_simp; done) | (go_simp; rfl)); (case hp => exact (Reps.none _ _)); intro v124 w57 ho58 hb hg_ hnew_; clear hg_ hnew_; (first | rw [← Ny123.out] at ho58 | (simp only [Int.reduceToNat] at ho58; rw [← Ny123.out] at ho58)); have n0_ := Aside0.mk (Kd.R_below (by (with_reducible repeat (first | apply Kd.R_alloc | apply Kd.R_drewN | apply Kd.R_drew)); exact HO_114000.out) hb); have n1_ := Aside0.mk (Kd.R_below (by (with_reducible repeat (first | apply Kd.R_alloc | apply Kd.R_drewN | apply Kd.R_drew)); exact HO_122000.out) hb); have n2_ := Aside0.mk (Kd.R_lower ho58 (below_size (by repeat (first | (with_reducible first | exact HB.out | apply below_alloc | apply pw_below_drewN | apply below_drew1 | refine below_set ?_ GE113.out | refine below_set ?_ GE121.out) | exact HB.out)))); have n3_ := Aside0.mk (blk_below (g := gb113) (o := .cells #[.slice Ao16 t106.length co16, .bool t109, .int .i64 t110, .int .i64 t111] 49 (0, 0)) (by (with_reducible repeat (first | refine blk_drewN ?_ _ | refine blk_drew ?_ | refine blk_alloc ?_ _)); exact BK113.out) hb); have n4_ := Aside0.mk (blk_below (g := gb121) (o := .cells #[.slice Ao20 t114.length co20, .bool t117, .int .i64 t118, .int .i64 t119] 49 (0, 0)) (by (with_reducible repeat (first | refine blk_drewN ?_ _ | refine blk_drew ?_ | refine blk_alloc ?_ _)); exact BK121.out) hb); have n5_ := Aside0.mk (below_step (by repeat (first | (with_reducible first | exact HB.out | apply below_alloc | apply pw_below_drewN | apply below_drew1 | refine below_set ?_ GE113.out | refine below_set ?_ GE121.out) | exact HB.out)) hb); clear HO_114000; clear HO_122000; clear BK113; clear BK121; clear HB; have HO_114000 := n0_; have HO_122000 := n1_; have HO125 := n2_; have BK113 := n3_; have BK121 := n4_; have HB := n5_; clear n0_ n1_ n2_ n3_ n4_ n5_; clear hb ho58) | ((with_reducible refine gate_builtin (b := .append) (xs := #[.tmp 60, .tmp 61]) rfl ?_); (try (refine gate_guard (by rfl) ?_; dsimp only)); at_builtin; refine Kd.R_append_rows (Kd.int .u8) (w0 := w) w.heap.size rfl (.tmp 60) (.tmp 61) 32 5 (.int .u8 0) 1 rfl Tryz.underlying32 info5 rfl (by decide) (by omega) v124 y123 l0 _ _ _ (fun _ => True) (fun _ => False) rfl rfl ?aO ?aR (fun _ _ h => h) (fun _ h => h.elim) ?aF ?aB ?aS ?aL ?_; (case aR => repeat (first | exact (Kd.C_below HR0.out HB.out) | (with_reducible refine Kd.C_alloc ?_ _) | (with_reducible refine Kd.C_drewN ?_ _) | (with_reducible refine Kd.C_drew ?_))); (case aB => exact (by repeat (first | (with_reducible first | exact HB.out | apply below_alloc | apply pw_below_drewN | apply below_drew1 | refine below_set ?_ GE113.out | refine below_set ?_ GE121.out) | exact HB.out))); (case aF => exact (fun _ _ => trivial)); (case aO => exact (by (with_reducible repeat (first | apply Kd.R_alloc | apply Kd.R_drewN | apply Kd.R_drew)); exact HO125.out)); (case aS => exact (below_size (by repeat (first | (with_reducible first | exact HB.out | apply below_alloc | apply pw_below_drewN | apply below_drew1 | refine below_set ?_ GE113.out | refine below_set ?_ GE121.out) | exact HB.out)))); (case aL => have := LMc38.out; omega); intro v127 w59 ho hb hg hat; rw [← Ny126.out] at ho; have n0_ := Aside0.mk (Kd.R_over' (by (with_reducible repeat (first | apply Kd.R_alloc | apply Kd.R_drewN | apply Kd.R_drew)); exact HO_114000.out) (Kd.R_typed (by (with_reducible repeat (first | apply Kd.R_alloc | apply Kd.R_drewN | apply Kd.R_drew)); exact HO125.out)) (by decide) hg); have n1_ := Aside0.mk (Kd.R_over' (by (with_reducible repeat (first | apply Kd.R_alloc | apply Kd.R_drewN | apply Kd.R_drew)); exact HO_122000.out) (Kd.R_typed (by (with_reducible repeat (first | apply Kd.R_alloc | apply Kd.R_drewN | apply Kd.R_drew)); exact HO125.out)) (by decide) hg); have n2_ := Aside0.mk (blk_grown (g := gb113) (o := .cells #[.slice Ao16 t106.length co16, .bool t109, .int .i64 t110, .int .i64 t111] 49 (0, 0)) (by (with_reducible repeat (first | refine blk_drewN ?_ _ | refine blk_drew ?_ | refine blk_alloc ?_ _)); exact BK113.out) hg (Kd.R_ne HO125.out BK113.out (by decide))); have n3_ := Aside0.mk (blk_grown (g := gb121) (o := .cells #[.slice Ao20 t114.length co20, .bool t117, .int .i64 t118, .int .i64 t119] 49 (0, 0)) (by (with_reducible repeat (first | refine blk_drewN ?_ _ | refine blk_drew ?_ | refine blk_alloc ?_ _)); exact BK121.out) hg (Kd.R_ne HO125.out BK121.out (by decide))); have n4_ := Aside0.mk (hb); have n5_ := Aside0.mk (ho); clear HO_114000; clear HO_122000; clear BK113; clear BK121; clear HB; clear HO125; have HO_114000 := n0_; have HO_122000 := n1_; have BK113 := n2_; have BK121 := n3_; have HB := n4_; have HO128 := n5_; clear n0_ n1_ n2_ n3_ n4_ n5_; clear ho hb hg hat) | ((with_reducible refine gate_builtin (b := .append) (xs := #[.tmp 62, .tmp 63]) rfl ?_); (try (refine gate_guard (by rfl) ?_; dsimp only)); at_builtin; refine Kd.R_append_rows (Kd.int .u8) (w0 := w) w.heap.size rfl (.tmp 62) (.tmp 63) 32 5 (.int .u8 0) 1 rfl Tryz.underlying32 info5 rfl (by decide) (by omega) v127 y126 l1 _ _ _ (fun _ => True) (fun _ => False) rfl rfl ?aO ?aR (fun _ _ h => h) (fun _ h => h.elim) ?aF ?aB ?aS ?aL ?_; (case aR => repeat (first | exact (Kd.C_below HR1.out HB.out) | (with_reducible refine Kd.C_alloc ?_ _) | (with_reducible refine Kd.C_drewN ?_ _) | (with_reducible refine Kd.C_drew ?_))); (case aB => exact (by repeat (first | (with_reducible first | exact HB.out | apply below_alloc | apply pw_below_drewN | apply below_drew1 | refine below_set ?_ GE113.out | refine below_set ?_ GE121.out) | exact HB.out))); (case aF => exact (fun _ _ => trivial)); (case aO => exact (by (with_reducible repeat (first | apply Kd.R_alloc | apply Kd.R_drewN | apply Kd.R_drew)); exact HO128.out)); (case aS => exact (below_size (by repeat (first | (with_reducible first | exact HB.out | apply below_alloc | apply pw_below_drewN | apply below_drew1 | refine below_set ?_ GE113.out | refine below_set ?_ GE121.out) | exact HB.out)))); (case aL => have := LMc39.out; omega); intro v130 w60 ho hb hg hat; rw [← Ny129.out] at ho; have n0_ := Aside0.mk (Kd.R_over' (by (with_reducible repeat (first | apply Kd.R_alloc | apply Kd.R_drewN | apply Kd.R_drew)); exact HO_114000.out) (Kd.R_typed (by (with_reducible repeat (first | apply Kd.R_alloc | apply Kd.R_drewN | apply Kd.R_drew)); exact HO128.out)) (by decide) hg); have n1_ := Aside0.mk (Kd.R_over' (by (with_reducible repeat (first | apply Kd.R_alloc | apply Kd.R_drewN | apply Kd.R_drew)); exact HO_122000.out) (Kd.R_typed (by (with_reducible repeat (first | apply Kd.R_alloc | apply Kd.R_drewN | apply Kd.R_drew)); exact HO128.out)) (by decide) hg); have n2_ := Aside0.mk (blk_grown (g := gb113) (o := .cells #[.slice Ao16 t106.length co16, .bool t109, .int .i64 t110, .int .i64 t111] 49 (0, 0)) (by (with_reducible repeat (first | refine blk_drewN ?_ _ | refine blk_drew ?_ | refine blk_alloc ?_ _)); exact BK113.out) hg (Kd.R_ne HO128.out BK113.out (by decide))); have n3_ := Aside0.mk (blk_grown (g := gb121) (o := .cells #[.slice Ao20 t114.length co20, .bool t117, .int .i64 t118, .int .i64 t119] 49 (0, 0)) (by (with_reducible repeat (first | refine blk_drewN ?_ _ | refine blk_drew ?_ | refine blk_alloc ?_ _)); exact BK121.out) hg (Kd.R_ne HO128.out BK121.out (by decide))); have n4_ := Aside0.mk (hb); have n5_ := Aside0.mk (ho); clear HO_114000; clear HO_122000; clear BK113; clear BK121; clear HB; clear HO128; have HO_114000 := n0_; have HO_122000 := n1_; have BK113 := n2_; have BK121 := n3_; have HB := n4_; have HO131 := n5_; clear n0_ n1_ n2_ n3_ n4_ n5_; clear ho hb hg hat; obtain ⟨Ao61, co61, eo61⟩ := Kd.R_slice HO131.out; subst eo61) | ((with_reducible refine gate_callee (f := 20) rfl ?_); refine goesL_ (some 66) rfl rfl Tryz.func20 (by kernel_rfl) rfl #[.slice Ao61 y129.length co61, .slice A2 l2.length c2] rfl (by (try simp only [List.map_toArray, List.map_cons, List.map_nil]); first | done | rfl | (simp only [List.length_drop, List.length_take]; rfl)) ?_; (with_reducible refine (pannierlaw12_fed.calls _ _ y129 _ _ l2 t132 t135 t136 t137 false _ ?side1 ?side2 ?side3 ?side4 ?side5 A40.out).mono ?_); (case side1 => repeat (first | exact (Kd.R_reads' HO131.out).2.2 | (with_reducible refine Kd.C_alloc ?_ _) | (with_reducible refine Kd.C_drewN ?_ _) | (with_reducible refine Kd.C_drew ?_))); (case side2 => exact (Kd.R_reads' HO131.out).2.1); (case side3 => repeat (first | exact (Kd.C_below HR2.out HB.out) | (with_reducible refine Kd.C_alloc ?_ _) | (with_reducible refine Kd.C_drewN ?_ _) | (with_reducible refine Kd.C_drew ?_))); (case side4 => exact HC2.out); (case side5 => exact HE_.out.below (by repeat (first | (with_reducible first | exact HB.out | apply below_alloc | apply pw_below_drewN | apply below_drew1 | refine below_set ?_ GE113.out | refine below_set ?_ GE121.out) | exact HB.out))); rintro e w62 ⟨v133, rfl, ho0, hb⟩; refine ⟨_, rfl, ?_⟩; have n0_ := Aside0.mk (Kd.R_elder' (by (with_reducible repeat (first | apply Kd.R_alloc | apply Kd.R_drewN | apply Kd.R_drew)); exact HO_114000.out) (Kd.R_base ho0) hb); have n1_ := Aside0.mk (Kd.R_elder' (by (with_reducible repeat (first | apply Kd.R_alloc | apply Kd.R_drewN | apply Kd.R_drew)); exact HO_122000.out) (Kd.R_base ho0) hb); have n2_ := Aside0.mk (Kd.R_below (by (with_reducible repeat (first | apply Kd.R_alloc | apply Kd.R_drewN | apply Kd.R_drew)); exact HO131.out) hb); have n3_ := Aside0.mk (Kd.R_lower (Kd.R_new' (Kd.R_new' ho0 (Kd.R_lt (by (with_reducible repeat (first | apply Kd.R_alloc | apply Kd.R_drewN | apply Kd.R_drew)); exact HO_114000.out))) (Kd.R_lt (by (with_reducible repeat (first | apply Kd.R_alloc | apply Kd.R_drewN | apply Kd.R_drew)); exact HO_122000.out))) (below_size (by repeat (first | (with_reducible first | exact HB.out | apply below_alloc | apply pw_below_drewN | apply below_drew1 | refine below_set ?_ GE113.out | refine below_set ?_ GE121.out) | exact HB.out)))); have n4_ := Aside0.mk (blk_below (g := gb113) (o := .cells #[.slice Ao16 t106.length co16, .bool t109, .int .i64 t110, .int .i64 t111] 49 (0, 0)) (by (with_reducible repeat (first | refine blk_drewN ?_ _ | refine blk_drew ?_ | refine blk_alloc ?_ _)); exact BK113.out) hb); have n5_ := Aside0.mk (blk_below (g := gb121) (o := .cells #[.slice Ao20 t114.length co20, .bool t117, .int .i64 t118, .int .i64 t119] 49 (0, 0)) (by (with_reducible repeat (first | refine blk_drewN ?_ _ | refine blk_drew ?_ | refine blk_alloc ?_ _)); exact BK121.out) hb); have n6_ := Aside0.mk (below_step (by repeat (first | (with_reducible first | exact HB.out | apply below_alloc | apply pw_below_drewN | apply below_drew1 | refine below_set ?_ GE113.out | refine below_set ?_ GE121.out) | exact HB.out)) hb); clear HO_114000; clear HO_122000; clear HO131; clear BK113; clear BK121; clear HB; have HO_114000 := n0_; have HO_122000 := n1_; have HO131 := n2_; have HO134 := n3_; have BK113 := n4_; have BK121 := n5_; have HB := n6_; clear n0_ n1_ n2_ n3_ n4_ n5_ n6_; (try clear hb); (try clear hb2); (try clear hk); (try clear hi); (try clear ho0)) | ((with_reducible refine gate_dst (N := 11) rfl ?_); (try (refine gate_guard (by rfl) ?_; dsimp only)); refine box_event ?hg (N := 11) ?hd (cs := #[.slice none 0 0, .bool false, .int .i64 0, .int .i64 0]) (t := 49) ?hr ?_; (case hd => rfl); (case hg => rfl); (case hr => first | (go_simp; done) | (go_simp; rfl)); intro gb139 hg w63 hbox hb; have n0_ := Aside0.mk (Kd.R_below (by (with_reducible repeat (first | apply Kd.R_alloc | apply Kd.R_drewN | apply Kd.R_drew)); exact HO_114000.out) hb); have n1_ := Aside0.mk (Kd.R_below (by (with_reducible repeat (first | apply Kd.R_alloc | apply Kd.R_drewN | apply Kd.R_drew)); exact HO_122000.out) hb); have n2_ := Aside0.mk (Kd.R_below (by (with_reducible repeat (first | apply Kd.R_alloc | apply Kd.R_drewN | apply Kd.R_drew)); exact HO131.out) hb); have n3_ := Aside0.mk (Kd.R_below (by (with_reducible repeat (first | apply Kd.R_alloc | apply Kd.R_drewN | apply Kd.R_drew)); exact HO134.out) hb); have n4_ := Aside0.mk (blk_below (g := gb113) (o := .cells #[.slice Ao16 t106.length co16, .bool t109, .int .i64 t110, .int .i64 t111] 49 (0, 0)) (by (with_reducible repeat (first | refine blk_drewN ?_ _ | refine blk_drew ?_ | refine blk_alloc ?_ _)); exact BK113.out) hb); have n5_ := Aside0.mk (blk_below (g := gb121) (o := .cells #[.slice Ao20 t114.length co20, .bool t117, .int .i64 t118, .int .i64 t119] 49 (0, 0)) (by (with_reducible repeat (first | refine blk_drewN ?_ _ | refine blk_drew ?_ | refine blk_alloc ?_ _)); exact BK121.out) hb); have n6_ := Aside0.mk (below_step (by repeat (first | (with_reducible first | exact HB.out | apply below_alloc | apply pw_below_drewN | apply below_drew1 | refine below_set ?_ GE113.out | refine below_set ?_ GE121.out) | exact HB.out)) hb); have n7_ := Aside0.mk (hbox); have n8_ := Aside0.mk ((by rw [hg]; exact (below_size (by repeat (first | (with_reducible first | exact HB.out | apply below_alloc | apply pw_below_drewN | apply below_drew1 | refine below_set ?_ GE113.out | refine below_set ?_ GE121.out) | exact HB.out))) : w.heap.size ≤ gb139)); have n9_ := Aside0.mk ((by rw [hg]; exact (below_size (by repeat (first | (with_reducible first | exact HB.out | apply below_alloc | apply pw_below_drewN | apply below_drew1 | refine below_set ?_ GE113.out | refine below_set ?_ GE121.out) | exact HB.out))) : w.heap.size ≤ gb139)); have n10_ := Aside0.mk ((by rw [hg]; exact Nat.ne_of_lt (blk_lt (g := gb113) (o := .cells #[.slice Ao16 t106.length co16, .bool t109, .int .i64 t110, .int .i64 t111] 49 (0, 0)) (by (with_reducible repeat (first | refine blk_drewN ?_ _ | refine blk_drew ?_ | refine blk_alloc ?_ _)); exact BK113.out)) : gb113 ≠ gb139)); have n11_ := Aside0.mk ((by rw [hg]; exact Nat.ne_of_gt (blk_lt (g := gb113) (o := .cells #[.slice Ao16 t106.length co16, .bool t109, .int .i64 t110, .int .i64 t111] 49 (0, 0)) (by (with_reducible repeat (first | refine blk_drewN ?_ _ | refine blk_drew ?_ | refine blk_alloc ?_ _)); exact BK113.out)) : gb139 ≠ gb113)); have n12_ := Aside0.mk ((by rw [hg]; exact Nat.ne_of_lt (blk_lt (g := gb121) (o := .cells #[.slice Ao20 t114.length co20, .bool t117, .int .i64 t118, .int .i64 t119] 49 (0, 0)) (by (with_reducible repeat (first | refine blk_drewN ?_ _ | refine blk_drew ?_ | refine blk_alloc ?_ _)); exact BK121.out)) : gb121 ≠ gb139)); have n13_ := Aside0.mk ((by rw [hg]; exact Nat.ne_of_gt (blk_lt (g := gb121) (o := .cells #[.slice Ao20 t114.length co20, .bool t117, .int .i64 t118, .int .i64 t119] 49 (0, 0)) (by (with_reducible repeat (first | refine blk_drewN ?_ _ | refine blk_drew ?_ | refine blk_alloc ?_ _)); exact BK121.out)) : gb139 ≠ gb121)); clear HO_114000; clear HO_122000; clear HO131; clear HO134; clear BK113; clear BK121; clear HB; have HO_114000 := n0_; have HO_122000 := n1_; have HO131 := n2_; have HO134 := n3_; have BK113 := n4_; have BK121 := n5_; have HB := n6_; have BK139 := n7_; have GW139 := n8_; have GE139 := n9_; have NB113_139 := n10_; have NB139_113 := n11_; have NB121_139 := n12_; have NB139_121 := n13_; clear n0_ n1_ n2_ n3_ n4_ n5_ n6_ n7_ n8_ n9_ n10_ n11_ n12_ n13_; clear hb hbox hg; obtain ⟨Ao64, co64, eo64⟩ := Kd.R_slice HO134.out; subst eo64; have hnb65 := NB139_113.out; have hnc65 := NB113_139.out; have hnb66 := NB139_121.out; have hnc66 := NB121_139.out; have hcz67_0 : w63.cell? ⟨gb139, 0, none⟩ = some (.slice none 0 0) := (blk_cell BK139.out 0).trans rfl; have hcz67_1 : w63.cell? ⟨gb139, 1, none⟩ = some (.bool false) := (blk_cell BK139.out 1).trans rfl; have hcz67_2 : w63.cell? ⟨gb139, 2, none⟩ = some (.int .i64 0) := (blk_cell BK139.out 2).trans rfl; have hcz67_3 : w63.cell? ⟨gb139, 3, none⟩ = some (.int .i64 0) := (blk_cell BK139.out 3).trans rfl; have hfz67_0 := blk_frozen BK139.out 0; have hfz67_1 := blk_frozen BK139.out 1; have hfz67_2 := blk_frozen BK139.out 2; have hfz67_3 := blk_frozen BK139.out 3))
                            go_ret
                            exact ⟨by first | rfl | (simp [errW_none, errW_some] <;> rfl) | (simp [*, errW_none, errW_some] <;> rfl), by repeat (first | (with_reducible first | exact HB.out | apply below_alloc | apply pw_below_drewN | apply below_drew1 | refine below_set ?_ GE113.out | refine below_set ?_ GE121.out | refine below_set ?_ GE139.out) | exact HB.out)⟩
                        · rw [if_neg c39] at H
                          exact absurd H (by simp)
                      · rw [if_neg c38] at H
                        exact absurd H (by simp)
  · replace c5 := Bool.eq_false_iff.mpr c5
    subst c5
    have H1 : (some false) = some r := by rw [if_neg (show ¬ (false = true) by decide)] at H; exact H
    clear H
    have H := H1
    clear H1
    obtain rfl := Option.some.inj H
    go_enter Tryz.func5, Tryz.ntmps5
    go_wp2_with (first | ((with_reducible refine gate_callee (f := 19) rfl ?_); refine goesL_ (some 13) rfl rfl Tryz.func19 (by kernel_rfl) rfl #[] rfl (by (try simp only [List.map_toArray, List.map_cons, List.map_nil]); first | done | rfl | (simp only [List.length_drop, List.length_take]; rfl)) ?_; (with_reducible refine (pannierlaw12_reads.calls  false _ ?side1 A4.out).mono ?_); (case side1 => exact HE_.out.below (by repeat (first | (with_reducible first | exact HB.out | apply below_alloc | apply pw_below_drewN | apply below_drew1) | exact HB.out))); rintro e w68 ⟨rfl, hb⟩; refine ⟨_, rfl, ?_⟩; have n0_ := Aside0.mk (below_step (by repeat (first | (with_reducible first | exact HB.out | apply below_alloc | apply pw_below_drewN | apply below_drew1) | exact HB.out)) hb); clear HB; have HB := n0_; clear n0_; (try clear hb); (try clear hb2); (try clear hk); (try clear hi)))
    go_ret
    exact ⟨by first | rfl | (simp [errW_none, errW_some] <;> rfl) | (simp [*, errW_none, errW_some] <;> rfl), by repeat (first | (with_reducible first | exact HB.out | apply below_alloc | apply pw_below_drewN | apply below_drew1) | exact HB.out)⟩

-- NOT PRINTED: function 6 (pannierlaw12_PushEnds)

-- NOT PRINTED: function 7 (pannierlaw12_PushBytes)

end Go.Proofs.YtpbpfngichfgeaaGreatDoor.PFed
