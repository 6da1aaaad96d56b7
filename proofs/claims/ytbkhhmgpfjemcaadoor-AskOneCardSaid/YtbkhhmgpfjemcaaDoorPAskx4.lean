-- Printed by a program of ours (wip/print2).
import Derived.Test.YtbkhhmgpfjemcaaDoorAskExt
import Derived.Test.YtbkhhmgpfjemcaaDoorPAskx0
import Derived.Test.YtbkhhmgpfjemcaaDoorPAskx1
import Derived.Test.YtbkhhmgpfjemcaaDoorPAskx3
namespace Go.Proofs.YtbkhhmgpfjemcaaDoor.PAsk
open Go.RowKit Go.Proofs.YtbkhhmgpfjemcaaDoorW.PrintWords Go.Proofs.YtbkhhmgpfjemcaaDoorW.PrintLast Go.Proofs.YtbkhhmgpfjemcaaDoorW.PrintMore
attribute [local go_sem] max2_int min2_int max_two min_two max_three min_three max_four min_four   -- for this text's walks alone
set_option linter.unusedVariables false
set_option linter.unusedSimpArgs false

/-! ### pannierlaw20_AskOne: function 4 -/
mutual
def pannierlaw20_AskOne.j0 : Nat → ByteArray → ByteArray → Bool → Option (Bool)
  | 0, _, _, _ => none
  | k + 1, x0, x1, x19 => if x19 = true then (some true) else ((ask_Decode.f k x0).bind fun bt175 => ((ask_Decode.f k x1).bind fun bt185 => (if bt175.2.2.2.2.2.2 = 0 then (pannierlaw20_AskOne.j1 k x0 x1 (bt185.2.2.2.2.2.2 != 0) bt175.1 bt175.2.1 bt175.2.2.1 bt175.2.2.2.1 bt175.2.2.2.2.1 bt175.2.2.2.2.2.1 bt185.1 bt185.2.1 bt185.2.2.1 bt185.2.2.2.1 bt185.2.2.2.2.1 bt185.2.2.2.2.2.1) else (pannierlaw20_AskOne.j1 k x0 x1 true bt175.1 bt175.2.1 bt175.2.2.1 bt175.2.2.2.1 bt175.2.2.2.2.1 bt175.2.2.2.2.2.1 bt185.1 bt185.2.1 bt185.2.2.1 bt185.2.2.2.1 bt185.2.2.2.2.1 bt185.2.2.2.2.2.1))))
def pannierlaw20_AskOne.j1 : Nat → ByteArray → ByteArray → Bool → Int → Int → Int → Int → ByteArray → List Int → Int → Int → Int → Int → ByteArray → List Int → Option (Bool)
  | 0, _, _, _, _, _, _, _, _, _, _, _, _, _, _, _ => none
  | k + 1, x0, x1, x35, x185000, x185001, x185002, x185003, x185004, x185005, x195000, x195001, x195002, x195003, x195004, x195005 => if x35 = true then (some true) else (pannierlaw20_AskOne.l0 k x0 x1 x185000 x185001 x185002 x185003 x185004 x185005 x195000 x195001 x195002 x195003 x195004 x195005)
def pannierlaw20_AskOne.j3 : Nat → ByteArray → ByteArray → Int → Int → Int → Int → ByteArray → List Int → Int → Int → Int → Int → ByteArray → List Int → Option (Bool)
  | 0, _, _, _, _, _, _, _, _, _, _, _, _, _, _ => none
  | k + 1, x0, x1, x185000, x185001, x185002, x185003, x185004, x185005, x195000, x195001, x195002, x195003, x195004, x195005 => pannierlaw20_AskOne.l1 k x0 x1 x185000 x185001 x185002 x185003 x185004 x185005 x195000 x195001 x195002 x195003 x195004 x195005
def pannierlaw20_AskOne.l1 : Nat → ByteArray → ByteArray → Int → Int → Int → Int → ByteArray → List Int → Int → Int → Int → Int → ByteArray → List Int → Option (Bool)
  | 0, _, _, _, _, _, _, _, _, _, _, _, _, _, _ => none
  | k + 1, x0, x1, x185000, x185001, x185002, x185003, x185004, x185005, x195000, x195001, x195002, x195003, x195004, x195005 => if (x1.size : Int) > 0 then (if 0 ≤ (wrap64 ((x1.size : Int) - 1)) then (if (wrap64 ((x1.size : Int) - 1)) < (x1.size : Int) then (if (bt x1 (wrap64 ((x1.size : Int) - 1))) = 32 then (if x195004.toList = ([] : List UInt8) then (if (wrap64 ((x1.size : Int) - 1)) ≤ (x1.size : Int) then (pannierlaw20_AskOne.l1 k x0 (x1.extract 0 ((wrap64 ((x1.size : Int) - 1)) : Int).toNat) x185000 x185001 x185002 x185003 x185004 x185005 x195000 x195001 x195002 x195003 x195004 x195005) else (none)) else (if x185000 = x195000 then (if x185001 = x195001 then (if x185002 = x195002 then (if x185003 = x195003 then (if x185004.toList = x195004.toList then (some (((strOfNums x185005).toList == (strOfNums x195005).toList) == (x0.toList == x1.toList))) else (some (false == (x0.toList == x1.toList)))) else (some (false == (x0.toList == x1.toList)))) else (some (false == (x0.toList == x1.toList)))) else (some (false == (x0.toList == x1.toList)))) else (some (false == (x0.toList == x1.toList))))) else (if x185000 = x195000 then (if x185001 = x195001 then (if x185002 = x195002 then (if x185003 = x195003 then (if x185004.toList = x195004.toList then (some (((strOfNums x185005).toList == (strOfNums x195005).toList) == (x0.toList == x1.toList))) else (some (false == (x0.toList == x1.toList)))) else (some (false == (x0.toList == x1.toList)))) else (some (false == (x0.toList == x1.toList)))) else (some (false == (x0.toList == x1.toList)))) else (some (false == (x0.toList == x1.toList))))) else (none)) else (none)) else (if x185000 = x195000 then (if x185001 = x195001 then (if x185002 = x195002 then (if x185003 = x195003 then (if x185004.toList = x195004.toList then (some (((strOfNums x185005).toList == (strOfNums x195005).toList) == (x0.toList == x1.toList))) else (some (false == (x0.toList == x1.toList)))) else (some (false == (x0.toList == x1.toList)))) else (some (false == (x0.toList == x1.toList)))) else (some (false == (x0.toList == x1.toList)))) else (some (false == (x0.toList == x1.toList))))
def pannierlaw20_AskOne.l0 : Nat → ByteArray → ByteArray → Int → Int → Int → Int → ByteArray → List Int → Int → Int → Int → Int → ByteArray → List Int → Option (Bool)
  | 0, _, _, _, _, _, _, _, _, _, _, _, _, _, _ => none
  | k + 1, x0, x1, x185000, x185001, x185002, x185003, x185004, x185005, x195000, x195001, x195002, x195003, x195004, x195005 => if (x0.size : Int) > 0 then (if 0 ≤ (wrap64 ((x0.size : Int) - 1)) then (if (wrap64 ((x0.size : Int) - 1)) < (x0.size : Int) then (if (bt x0 (wrap64 ((x0.size : Int) - 1))) = 32 then (if x185004.toList = ([] : List UInt8) then (if (wrap64 ((x0.size : Int) - 1)) ≤ (x0.size : Int) then (pannierlaw20_AskOne.l0 k (x0.extract 0 ((wrap64 ((x0.size : Int) - 1)) : Int).toNat) x1 x185000 x185001 x185002 x185003 x185004 x185005 x195000 x195001 x195002 x195003 x195004 x195005) else (none)) else (pannierlaw20_AskOne.j3 k x0 x1 x185000 x185001 x185002 x185003 x185004 x185005 x195000 x195001 x195002 x195003 x195004 x195005)) else (pannierlaw20_AskOne.j3 k x0 x1 x185000 x185001 x185002 x185003 x185004 x185005 x195000 x195001 x195002 x195003 x195004 x195005)) else (none)) else (none)) else (pannierlaw20_AskOne.j3 k x0 x1 x185000 x185001 x185002 x185003 x185004 x185005 x195000 x195001 x195002 x195003 x195004 x195005)
end
def pannierlaw20_AskOne.f (k : Nat) (a0 : ByteArray) (a1 : ByteArray) : Option (Bool) := (pannierlaw20_asks.f k).bind fun t174 => (if t174 = true then (if (a0.size : Int) > 20000 then (pannierlaw20_AskOne.j0 k a0 a1 true) else (pannierlaw20_AskOne.j0 k a0 a1 (decide ((a1.size : Int) > 20000)))) else (some false))
theorem pannierlaw20_AskOne.mono_l : ∀ k, (∀ y0 y1 y2, LeO (pannierlaw20_AskOne.j0 k y0 y1 y2) (pannierlaw20_AskOne.j0 (k + 1) y0 y1 y2)) ∧ (∀ y0 y1 y2 y3 y4 y5 y6 y7 y8 y9 y10 y11 y12 y13 y14, LeO (pannierlaw20_AskOne.j1 k y0 y1 y2 y3 y4 y5 y6 y7 y8 y9 y10 y11 y12 y13 y14) (pannierlaw20_AskOne.j1 (k + 1) y0 y1 y2 y3 y4 y5 y6 y7 y8 y9 y10 y11 y12 y13 y14)) ∧ (∀ y0 y1 y2 y3 y4 y5 y6 y7 y8 y9 y10 y11 y12 y13, LeO (pannierlaw20_AskOne.j3 k y0 y1 y2 y3 y4 y5 y6 y7 y8 y9 y10 y11 y12 y13) (pannierlaw20_AskOne.j3 (k + 1) y0 y1 y2 y3 y4 y5 y6 y7 y8 y9 y10 y11 y12 y13)) ∧ (∀ y0 y1 y2 y3 y4 y5 y6 y7 y8 y9 y10 y11 y12 y13, LeO (pannierlaw20_AskOne.l1 k y0 y1 y2 y3 y4 y5 y6 y7 y8 y9 y10 y11 y12 y13) (pannierlaw20_AskOne.l1 (k + 1) y0 y1 y2 y3 y4 y5 y6 y7 y8 y9 y10 y11 y12 y13)) ∧ (∀ y0 y1 y2 y3 y4 y5 y6 y7 y8 y9 y10 y11 y12 y13, LeO (pannierlaw20_AskOne.l0 k y0 y1 y2 y3 y4 y5 y6 y7 y8 y9 y10 y11 y12 y13) (pannierlaw20_AskOne.l0 (k + 1) y0 y1 y2 y3 y4 y5 y6 y7 y8 y9 y10 y11 y12 y13))
  | 0 => ⟨fun _ _ _ r h => by simp [pannierlaw20_AskOne.j0] at h, fun _ _ _ _ _ _ _ _ _ _ _ _ _ _ _ r h => by simp [pannierlaw20_AskOne.j1] at h, fun _ _ _ _ _ _ _ _ _ _ _ _ _ _ r h => by simp [pannierlaw20_AskOne.j3] at h, fun _ _ _ _ _ _ _ _ _ _ _ _ _ _ r h => by simp [pannierlaw20_AskOne.l1] at h, fun _ _ _ _ _ _ _ _ _ _ _ _ _ _ r h => by simp [pannierlaw20_AskOne.l0] at h⟩
  | k + 1 => by
    obtain ⟨ih0, ih1, ih2, ih3, ih4⟩ := pannierlaw20_AskOne.mono_l k
    refine ⟨?_, ?_, ?_, ?_, ?_⟩
    · intro y0 y1 y2
      unfold pannierlaw20_AskOne.j0
      repeat' first
      | (with_reducible exact ih0 _ _ _)
      | (with_reducible exact ih1 _ _ _ _ _ _ _ _ _ _ _ _ _ _ _)
      | (with_reducible exact ih2 _ _ _ _ _ _ _ _ _ _ _ _ _ _)
      | (with_reducible exact ih3 _ _ _ _ _ _ _ _ _ _ _ _ _ _)
      | (with_reducible exact ih4 _ _ _ _ _ _ _ _ _ _ _ _ _ _)
      | (with_reducible exact ask_Decode.mono _ _)
      | (with_reducible exact pannierlaw20_asks.mono _)
      | (with_reducible exact LeO.refl _)
      | (with_reducible exact LeO.none _)
      | (with_reducible refine LeO.ite ?_ ?_)
      | (with_reducible refine LeO.bind ?_ (fun _ => ?_))
      | exact ih0 _ _ _
      | exact ih1 _ _ _ _ _ _ _ _ _ _ _ _ _ _ _
      | exact ih2 _ _ _ _ _ _ _ _ _ _ _ _ _ _
      | exact ih3 _ _ _ _ _ _ _ _ _ _ _ _ _ _
      | exact ih4 _ _ _ _ _ _ _ _ _ _ _ _ _ _
      | exact ask_Decode.mono _ _
      | exact pannierlaw20_asks.mono _
      | exact LeO.none _
      | refine LeO.ite ?_ ?_
      | refine LeO.bind ?_ (fun _ => ?_)
    · intro y0 y1 y2 y3 y4 y5 y6 y7 y8 y9 y10 y11 y12 y13 y14
      unfold pannierlaw20_AskOne.j1
      repeat' first
      | (with_reducible exact ih0 _ _ _)
      | (with_reducible exact ih1 _ _ _ _ _ _ _ _ _ _ _ _ _ _ _)
      | (with_reducible exact ih2 _ _ _ _ _ _ _ _ _ _ _ _ _ _)
      | (with_reducible exact ih3 _ _ _ _ _ _ _ _ _ _ _ _ _ _)
      | (with_reducible exact ih4 _ _ _ _ _ _ _ _ _ _ _ _ _ _)
      | (with_reducible exact ask_Decode.mono _ _)
      | (with_reducible exact pannierlaw20_asks.mono _)
      | (with_reducible exact LeO.refl _)
      | (with_reducible exact LeO.none _)
      | (with_reducible refine LeO.ite ?_ ?_)
      | (with_reducible refine LeO.bind ?_ (fun _ => ?_))
      | exact ih0 _ _ _
      | exact ih1 _ _ _ _ _ _ _ _ _ _ _ _ _ _ _
      | exact ih2 _ _ _ _ _ _ _ _ _ _ _ _ _ _
      | exact ih3 _ _ _ _ _ _ _ _ _ _ _ _ _ _
      | exact ih4 _ _ _ _ _ _ _ _ _ _ _ _ _ _
      | exact ask_Decode.mono _ _
      | exact pannierlaw20_asks.mono _
      | exact LeO.none _
      | refine LeO.ite ?_ ?_
      | refine LeO.bind ?_ (fun _ => ?_)
    · intro y0 y1 y2 y3 y4 y5 y6 y7 y8 y9 y10 y11 y12 y13
      unfold pannierlaw20_AskOne.j3
      repeat' first
      | (with_reducible exact ih0 _ _ _)
      | (with_reducible exact ih1 _ _ _ _ _ _ _ _ _ _ _ _ _ _ _)
      | (with_reducible exact ih2 _ _ _ _ _ _ _ _ _ _ _ _ _ _)
      | (with_reducible exact ih3 _ _ _ _ _ _ _ _ _ _ _ _ _ _)
      | (with_reducible exact ih4 _ _ _ _ _ _ _ _ _ _ _ _ _ _)
      | (with_reducible exact ask_Decode.mono _ _)
      | (with_reducible exact pannierlaw20_asks.mono _)
      | (with_reducible exact LeO.refl _)
      | (with_reducible exact LeO.none _)
      | (with_reducible refine LeO.ite ?_ ?_)
      | (with_reducible refine LeO.bind ?_ (fun _ => ?_))
      | exact ih0 _ _ _
      | exact ih1 _ _ _ _ _ _ _ _ _ _ _ _ _ _ _
      | exact ih2 _ _ _ _ _ _ _ _ _ _ _ _ _ _
      | exact ih3 _ _ _ _ _ _ _ _ _ _ _ _ _ _
      | exact ih4 _ _ _ _ _ _ _ _ _ _ _ _ _ _
      | exact ask_Decode.mono _ _
      | exact pannierlaw20_asks.mono _
      | exact LeO.none _
      | refine LeO.ite ?_ ?_
      | refine LeO.bind ?_ (fun _ => ?_)
    · intro y0 y1 y2 y3 y4 y5 y6 y7 y8 y9 y10 y11 y12 y13
      unfold pannierlaw20_AskOne.l1
      repeat' first
      | (with_reducible exact ih0 _ _ _)
      | (with_reducible exact ih1 _ _ _ _ _ _ _ _ _ _ _ _ _ _ _)
      | (with_reducible exact ih2 _ _ _ _ _ _ _ _ _ _ _ _ _ _)
      | (with_reducible exact ih3 _ _ _ _ _ _ _ _ _ _ _ _ _ _)
      | (with_reducible exact ih4 _ _ _ _ _ _ _ _ _ _ _ _ _ _)
      | (with_reducible exact ask_Decode.mono _ _)
      | (with_reducible exact pannierlaw20_asks.mono _)
      | (with_reducible exact LeO.refl _)
      | (with_reducible exact LeO.none _)
      | (with_reducible refine LeO.ite ?_ ?_)
      | (with_reducible refine LeO.bind ?_ (fun _ => ?_))
      | exact ih0 _ _ _
      | exact ih1 _ _ _ _ _ _ _ _ _ _ _ _ _ _ _
      | exact ih2 _ _ _ _ _ _ _ _ _ _ _ _ _ _
      | exact ih3 _ _ _ _ _ _ _ _ _ _ _ _ _ _
      | exact ih4 _ _ _ _ _ _ _ _ _ _ _ _ _ _
      | exact ask_Decode.mono _ _
      | exact pannierlaw20_asks.mono _
      | exact LeO.none _
      | refine LeO.ite ?_ ?_
      | refine LeO.bind ?_ (fun _ => ?_)
    · intro y0 y1 y2 y3 y4 y5 y6 y7 y8 y9 y10 y11 y12 y13
      unfold pannierlaw20_AskOne.l0
      repeat' first
      | (with_reducible exact ih0 _ _ _)
      | (with_reducible exact ih1 _ _ _ _ _ _ _ _ _ _ _ _ _ _ _)
      | (with_reducible exact ih2 _ _ _ _ _ _ _ _ _ _ _ _ _ _)
      | (with_reducible exact ih3 _ _ _ _ _ _ _ _ _ _ _ _ _ _)
      | (with_reducible exact ih4 _ _ _ _ _ _ _ _ _ _ _ _ _ _)
      | (with_reducible exact ask_Decode.mono _ _)
      | (with_reducible exact pannierlaw20_asks.mono _)
      | (with_reducible exact LeO.refl _)
      | (with_reducible exact LeO.none _)
      | (with_reducible refine LeO.ite ?_ ?_)
      | (with_reducible refine LeO.bind ?_ (fun _ => ?_))
      | exact ih0 _ _ _
      | exact ih1 _ _ _ _ _ _ _ _ _ _ _ _ _ _ _
      | exact ih2 _ _ _ _ _ _ _ _ _ _ _ _ _ _
      | exact ih3 _ _ _ _ _ _ _ _ _ _ _ _ _ _
      | exact ih4 _ _ _ _ _ _ _ _ _ _ _ _ _ _
      | exact ask_Decode.mono _ _
      | exact pannierlaw20_asks.mono _
      | exact LeO.none _
      | refine LeO.ite ?_ ?_
      | refine LeO.bind ?_ (fun _ => ?_)
theorem pannierlaw20_AskOne.mono : ∀ a0 a1 k, LeO (pannierlaw20_AskOne.f k a0 a1) (pannierlaw20_AskOne.f (k + 1) a0 a1) := by
  intro a0 a1 k
  obtain ⟨ih0, ih1, ih2, ih3, ih4⟩ := pannierlaw20_AskOne.mono_l k
  unfold pannierlaw20_AskOne.f
  repeat' first
      | (with_reducible exact ih0 _ _ _)
      | (with_reducible exact ih1 _ _ _ _ _ _ _ _ _ _ _ _ _ _ _)
      | (with_reducible exact ih2 _ _ _ _ _ _ _ _ _ _ _ _ _ _)
      | (with_reducible exact ih3 _ _ _ _ _ _ _ _ _ _ _ _ _ _)
      | (with_reducible exact ih4 _ _ _ _ _ _ _ _ _ _ _ _ _ _)
      | (with_reducible exact ask_Decode.mono _ _)
      | (with_reducible exact pannierlaw20_asks.mono _)
      | (with_reducible exact LeO.refl _)
      | (with_reducible exact LeO.none _)
      | (with_reducible refine LeO.ite ?_ ?_)
      | (with_reducible refine LeO.bind ?_ (fun _ => ?_))
      | exact ih0 _ _ _
      | exact ih1 _ _ _ _ _ _ _ _ _ _ _ _ _ _ _
      | exact ih2 _ _ _ _ _ _ _ _ _ _ _ _ _ _
      | exact ih3 _ _ _ _ _ _ _ _ _ _ _ _ _ _
      | exact ih4 _ _ _ _ _ _ _ _ _ _ _ _ _ _
      | exact ask_Decode.mono _ _
      | exact pannierlaw20_asks.mono _
      | exact LeO.none _
      | refine LeO.ite ?_ ?_
      | refine LeO.bind ?_ (fun _ => ?_)
set_option maxHeartbeats 8000000 in
set_option maxRecDepth 100000 in
theorem pannierlaw20_AskOne.calls (k : Nat) (a0 : ByteArray) (a1 : ByteArray) (r : Bool) (w : World) (hE_ : EnvE w) (h : pannierlaw20_AskOne.f k a0 a1 = some r) :
    Calls Tryd.prog 4 #[.string a0, .string a1] w fun e w' => e = .returned (.bool r) ∧ Below w.heap.size w w' := by
  have HE_ := Aside0.mk hE_
  clear hE_
  have hu25 := Tryd.underlying25
  have HB := Aside0.mk (Below.refl w.heap.size w)
  have H : ((pannierlaw20_asks.f k).bind fun t174 => (if t174 = true then (if (a0.size : Int) > 20000 then (pannierlaw20_AskOne.j0 k a0 a1 true) else (pannierlaw20_AskOne.j0 k a0 a1 (decide ((a1.size : Int) > 20000)))) else (some false))) = some r := h
  clear h
  replace H := Option.bind_eq_some_iff.mp H
  obtain ⟨t174, A30, H⟩ := H
  replace H : (if t174 = true then (if (a0.size : Int) > 20000 then (pannierlaw20_AskOne.j0 k a0 a1 true) else (pannierlaw20_AskOne.j0 k a0 a1 (decide ((a1.size : Int) > 20000)))) else (some false)) = some r := H
  have A3 := Aside0.mk A30
  clear A30
  by_cases c4 : t174 = true
  · subst c4
    have H1 : (if (a0.size : Int) > 20000 then (pannierlaw20_AskOne.j0 k a0 a1 true) else (pannierlaw20_AskOne.j0 k a0 a1 (decide ((a1.size : Int) > 20000)))) = some r := by rw [if_pos rfl] at H; exact H
    clear H
    have H := H1
    clear H1
    have HC5 := Aside0.mk H
    clear H
    go_enter Tryd.func4, Tryd.ntmps4
    go_upto_region 3 with (first | ((with_reducible refine gate_callee (f := 9) rfl ?_); refine goesL_ (some 10) rfl rfl Tryd.func9 (by kernel_rfl) rfl #[] rfl (by (try simp only [List.map_toArray, List.map_cons, List.map_nil]); first | done | rfl | (simp only [List.length_drop, List.length_take]; rfl)) ?_; (with_reducible refine (pannierlaw20_asks.calls k  true _ ?side1 A3.out).mono ?_); (case side1 => exact HE_.out.below (by repeat (first | (with_reducible first | exact HB.out | apply below_alloc | apply pw_below_drewN | apply below_drew1) | exact HB.out))); rintro e w6 ⟨rfl, hb⟩; refine ⟨_, rfl, ?_⟩; have n0_ := Aside0.mk (below_step (by repeat (first | (with_reducible first | exact HB.out | apply below_alloc | apply pw_below_drewN | apply below_drew1) | exact HB.out)) hb); clear HB; have HB := n0_; clear n0_; (try clear hb); (try clear hb2); (try clear hk); (try clear hi)))
    (try simp only [Act.put, List.setIfInBounds_toArray, List.set_cons_zero, List.set_cons_succ])
    go_cut [19] (fun v19 wc => ∃ (kq : Nat) (x19_4 : Bool), v19 = .bool x19_4 ∧ Aside0 (pannierlaw20_AskOne.j0 kq a0 a1 x19_4 = some r) ∧ Aside0 (kq ≤ k) ∧ Aside0 (Below w.heap.size w wc))
    case first =>
      have H := HC5.out
      clear HC5
      by_cases c7 : (a0.size : Int) > 20000
      · rw [if_pos c7] at H
        have c7b0 : decide (20000 < (a0.size : Int)) = true := decide_eq_true c7
        have c7b1 : decide (20000 < a0.size) = true := decide_eq_true (by omega)
        clear c7
        (first | rw [c7b0] | (simp only [i64_w, i32_w]; rw [c7b0]) | skip)
        have H' := Aside0.mk H
        clear H
        go_wp2
        go_meet
        case rel => exact ⟨_, (true), (by first | rfl | (simp; done) | (simp; exact (fun l_ : List UInt8 => (by cases l_ <;> rfl : l_.isEmpty = !(l_ != []))) _) | (simp [*]; done)), H', ⟨by first | omega | exact Nat.le_refl _⟩, ⟨by repeat (first | (with_reducible first | exact HB.out | apply below_alloc | apply pw_below_drewN | apply below_drew1) | exact HB.out)⟩⟩
      · rw [if_neg c7] at H
        have c7b0 : decide (20000 < (a0.size : Int)) = false := decide_eq_false c7
        have c7b1 : decide (20000 < a0.size) = false := decide_eq_false (by omega)
        clear c7
        (first | rw [c7b0] | (simp only [i64_w, i32_w]; rw [c7b0]) | skip)
        have H' := Aside0.mk H
        clear H
        go_wp2
        go_meet
        case rel => exact ⟨_, (decide ((a1.size : Int) > 20000)), (by first | rfl | (simp; done) | (simp; exact (fun l_ : List UInt8 => (by cases l_ <;> rfl : l_.isEmpty = !(l_ != []))) _) | (simp [*]; done)), H', ⟨by first | omega | exact Nat.le_refl _⟩, ⟨by repeat (first | (with_reducible first | exact HB.out | apply below_alloc | apply pw_below_drewN | apply below_drew1) | exact HB.out)⟩⟩
    case rest =>
      clear HC5
      try clear p2
      try clear c4
      try clear c7
      try clear c7b0
      try clear c7b1
      obtain ⟨kq, x19_4, rfl, HA, HJ4, HB⟩ := hcut
      cases kq with
      | zero => exact absurd HA.out (by simp [pannierlaw20_AskOne.j0])
      | succ kj4 =>
        have H := HA.out
        clear HA
        simp only [pannierlaw20_AskOne.j0] at H
        by_cases c8 : x19_4 = true
        · subst c8
          have H1 : (some true) = some r := by rw [if_pos rfl] at H; exact H
          clear H
          have H := H1
          clear H1
          obtain rfl := Option.some.inj H
          go_wp2
          go_ret
          exact ⟨by first | rfl | (simp [errW_none, errW_some] <;> rfl) | (simp [*, errW_none, errW_some] <;> rfl), by repeat (first | (with_reducible first | exact HB.out | apply below_alloc | apply pw_below_drewN | apply below_drew1) | exact HB.out)⟩
        · replace c8 := Bool.eq_false_iff.mpr c8
          subst c8
          have H1 : ((ask_Decode.f kj4 a0).bind fun bt175 => ((ask_Decode.f kj4 a1).bind fun bt185 => (if bt175.2.2.2.2.2.2 = 0 then (pannierlaw20_AskOne.j1 kj4 a0 a1 (bt185.2.2.2.2.2.2 != 0) bt175.1 bt175.2.1 bt175.2.2.1 bt175.2.2.2.1 bt175.2.2.2.2.1 bt175.2.2.2.2.2.1 bt185.1 bt185.2.1 bt185.2.2.1 bt185.2.2.2.1 bt185.2.2.2.2.1 bt185.2.2.2.2.2.1) else (pannierlaw20_AskOne.j1 kj4 a0 a1 true bt175.1 bt175.2.1 bt175.2.2.1 bt175.2.2.2.1 bt175.2.2.2.2.1 bt175.2.2.2.2.2.1 bt185.1 bt185.2.1 bt185.2.2.1 bt185.2.2.2.1 bt185.2.2.2.2.1 bt185.2.2.2.2.2.1)))) = some r := by rw [if_neg (show ¬ (false = true) by decide)] at H; exact H
          clear H
          have H := H1
          clear H1
          replace H := Option.bind_eq_some_iff.mp H
          obtain ⟨⟨t175, t176, t177, t178, t179, t180, t183⟩, A90, H⟩ := H
          replace H : ((ask_Decode.f kj4 a1).bind fun bt185 => (if t183 = 0 then (pannierlaw20_AskOne.j1 kj4 a0 a1 (bt185.2.2.2.2.2.2 != 0) t175 t176 t177 t178 t179 t180 bt185.1 bt185.2.1 bt185.2.2.1 bt185.2.2.2.1 bt185.2.2.2.2.1 bt185.2.2.2.2.2.1) else (pannierlaw20_AskOne.j1 kj4 a0 a1 true t175 t176 t177 t178 t179 t180 bt185.1 bt185.2.1 bt185.2.2.1 bt185.2.2.2.1 bt185.2.2.2.2.1 bt185.2.2.2.2.2.1))) = some r := H
          have A9 := Aside0.mk A90
          clear A90
          replace H := Option.bind_eq_some_iff.mp H
          obtain ⟨⟨t185, t186, t187, t188, t189, t190, t193⟩, A100, H⟩ := H
          replace H : (if t183 = 0 then (pannierlaw20_AskOne.j1 kj4 a0 a1 (t193 != 0) t175 t176 t177 t178 t179 t180 t185 t186 t187 t188 t189 t190) else (pannierlaw20_AskOne.j1 kj4 a0 a1 true t175 t176 t177 t178 t179 t180 t185 t186 t187 t188 t189 t190)) = some r := H
          have A10 := Aside0.mk A100
          clear A100
          have HC11 := Aside0.mk H
          clear H
          go_upto_region 7 with (first | ((with_reducible refine gate_callee (f := 10) rfl ?_); refine goesL_ (some 22) rfl rfl Tryd.func10 (by kernel_rfl) rfl #[.string a0] rfl (by (try simp only [List.map_toArray, List.map_cons, List.map_nil]); first | done | rfl | (simp only [List.length_drop, List.length_take]; rfl)) ?_; (with_reducible refine (ask_Decode.calls kj4 a0 t175 t176 t177 t178 t179 t180 t183 _ ?side1 A9.out).mono ?_); (case side1 => exact HE_.out.below (by repeat (first | (with_reducible first | exact HB.out | apply below_alloc | apply pw_below_drewN | apply below_drew1) | exact HB.out))); rintro e w12 ⟨v181, rfl, ho0, hb⟩; refine ⟨_, rfl, ?_⟩; have n0_ := Aside0.mk (Kd.R_lower ho0 (below_size (by repeat (first | (with_reducible first | exact HB.out | apply below_alloc | apply pw_below_drewN | apply below_drew1) | exact HB.out)))); have n1_ := Aside0.mk (below_step (by repeat (first | (with_reducible first | exact HB.out | apply below_alloc | apply pw_below_drewN | apply below_drew1) | exact HB.out)) hb); clear HB; have HO182 := n0_; have HB := n1_; clear n0_ n1_; (try clear hb); (try clear hb2); (try clear hk); (try clear hi); (try clear ho0)) | ((with_reducible refine gate_dst (N := 5) rfl ?_); (try (refine gate_guard (by rfl) ?_; dsimp only)); refine box_event ?hg (N := 5) ?hd (cs := #[.int .i64 0, .int .i64 0, .int .i64 0, .int .i64 0, .string (⟨#[]⟩ : ByteArray), .slice none 0 0]) (t := 25) ?hr ?_; (case hd => rfl); (case hg => rfl); (case hr => first | (go_simp; done) | (go_simp; rfl)); intro gb184 hg w13 hbox hb; have n0_ := Aside0.mk (Kd.R_below (by (with_reducible repeat (first | apply Kd.R_alloc | apply Kd.R_drewN | apply Kd.R_drew)); exact HO182.out) hb); have n1_ := Aside0.mk (below_step (by repeat (first | (with_reducible first | exact HB.out | apply below_alloc | apply pw_below_drewN | apply below_drew1) | exact HB.out)) hb); have n2_ := Aside0.mk (hbox); have n3_ := Aside0.mk ((by rw [hg]; exact (below_size (by repeat (first | (with_reducible first | exact HB.out | apply below_alloc | apply pw_below_drewN | apply below_drew1) | exact HB.out))) : w.heap.size ≤ gb184)); have n4_ := Aside0.mk ((by rw [hg]; exact (below_size (by repeat (first | (with_reducible first | exact HB.out | apply below_alloc | apply pw_below_drewN | apply below_drew1) | exact HB.out))) : w.heap.size ≤ gb184)); clear HO182; clear HB; have HO182 := n0_; have HB := n1_; have BK184 := n2_; have GW184 := n3_; have GE184 := n4_; clear n0_ n1_ n2_ n3_ n4_; clear hb hbox hg; have hcz14_0 : w13.cell? ⟨gb184, 0, none⟩ = some (.int .i64 0) := (blk_cell BK184.out 0).trans rfl; have hcz14_1 : w13.cell? ⟨gb184, 1, none⟩ = some (.int .i64 0) := (blk_cell BK184.out 1).trans rfl; have hcz14_2 : w13.cell? ⟨gb184, 2, none⟩ = some (.int .i64 0) := (blk_cell BK184.out 2).trans rfl; have hcz14_3 : w13.cell? ⟨gb184, 3, none⟩ = some (.int .i64 0) := (blk_cell BK184.out 3).trans rfl; have hcz14_4 : w13.cell? ⟨gb184, 4, none⟩ = some (.string (⟨#[]⟩ : ByteArray)) := (blk_cell BK184.out 4).trans rfl; have hcz14_5 : w13.cell? ⟨gb184, 5, none⟩ = some (.slice none 0 0) := (blk_cell BK184.out 5).trans rfl; have hfz14_0 := blk_frozen BK184.out 0; have hfz14_1 := blk_frozen BK184.out 1; have hfz14_2 := blk_frozen BK184.out 2; have hfz14_3 := blk_frozen BK184.out 3; have hfz14_4 := blk_frozen BK184.out 4; have hfz14_5 := blk_frozen BK184.out 5; obtain ⟨Ao15, co15, eo15⟩ := Kd.R_slice HO182.out; subst eo15) | ((with_reducible refine gate_callee (f := 10) rfl ?_); refine goesL_ (some 27) rfl rfl Tryd.func10 (by kernel_rfl) rfl #[.string a1] rfl (by (try simp only [List.map_toArray, List.map_cons, List.map_nil]); first | done | rfl | (simp only [List.length_drop, List.length_take]; rfl)) ?_; (with_reducible refine (ask_Decode.calls kj4 a1 t185 t186 t187 t188 t189 t190 t193 _ ?side1 A10.out).mono ?_); (case side1 => exact HE_.out.below (by repeat (first | (with_reducible first | exact HB.out | apply below_alloc | apply pw_below_drewN | apply below_drew1 | refine below_set ?_ GE184.out) | exact HB.out))); rintro e w16 ⟨v191, rfl, ho0, hb⟩; refine ⟨_, rfl, ?_⟩; have n0_ := Aside0.mk (Kd.R_elder' (by (with_reducible repeat (first | apply Kd.R_alloc | apply Kd.R_drewN | apply Kd.R_drew)); exact (Kd.R_mono (Kd.R_far (p := ⟨gb184, 5, none⟩) (Kd.R_far (p := ⟨gb184, 4, none⟩) (Kd.R_far (p := ⟨gb184, 3, none⟩) (Kd.R_far (p := ⟨gb184, 2, none⟩) (Kd.R_far (p := ⟨gb184, 1, none⟩) (Kd.R_far (p := ⟨gb184, 0, none⟩) (Kd.R_types HO182.out BK184.out (by decide)) (fun _ hk => hk.2) (.int .i64 t175)) (fun _ hk => hk.2) (.int .i64 t176)) (fun _ hk => hk.2) (.int .i64 t177)) (fun _ hk => hk.2) (.int .i64 t178)) (fun _ hk => hk.2) (.string t179)) (fun _ hk => hk.2) (.slice Ao15 t180.length co15)) (fun _ h_ => h_.1))) (Kd.R_base ho0) hb); have n1_ := Aside0.mk (Kd.R_lower (Kd.R_new' ho0 (Kd.R_lt (by (with_reducible repeat (first | apply Kd.R_alloc | apply Kd.R_drewN | apply Kd.R_drew)); exact (Kd.R_mono (Kd.R_far (p := ⟨gb184, 5, none⟩) (Kd.R_far (p := ⟨gb184, 4, none⟩) (Kd.R_far (p := ⟨gb184, 3, none⟩) (Kd.R_far (p := ⟨gb184, 2, none⟩) (Kd.R_far (p := ⟨gb184, 1, none⟩) (Kd.R_far (p := ⟨gb184, 0, none⟩) (Kd.R_types HO182.out BK184.out (by decide)) (fun _ hk => hk.2) (.int .i64 t175)) (fun _ hk => hk.2) (.int .i64 t176)) (fun _ hk => hk.2) (.int .i64 t177)) (fun _ hk => hk.2) (.int .i64 t178)) (fun _ hk => hk.2) (.string t179)) (fun _ hk => hk.2) (.slice Ao15 t180.length co15)) (fun _ h_ => h_.1))))) (below_size (by repeat (first | (with_reducible first | exact HB.out | apply below_alloc | apply pw_below_drewN | apply below_drew1 | refine below_set ?_ GE184.out) | exact HB.out)))); have n2_ := Aside0.mk (blk_below (g := gb184) (o := .cells #[.int .i64 t175, .int .i64 t176, .int .i64 t177, .int .i64 t178, .string t179, .slice Ao15 t180.length co15] 25 (0, 0)) (by (with_reducible repeat (first | refine blk_drewN ?_ _ | refine blk_drew ?_ | refine blk_alloc ?_ _)); refine blk_put (cs := #[.int .i64 t175, .int .i64 t176, .int .i64 t177, .int .i64 t178, .string t179, .slice none 0 0]) ?_ 5 _ rfl; (with_reducible repeat (first | refine blk_drewN ?_ _ | refine blk_drew ?_ | refine blk_alloc ?_ _)); refine blk_put (cs := #[.int .i64 t175, .int .i64 t176, .int .i64 t177, .int .i64 t178, .string (⟨#[]⟩ : ByteArray), .slice none 0 0]) ?_ 4 _ rfl; (with_reducible repeat (first | refine blk_drewN ?_ _ | refine blk_drew ?_ | refine blk_alloc ?_ _)); refine blk_put (cs := #[.int .i64 t175, .int .i64 t176, .int .i64 t177, .int .i64 0, .string (⟨#[]⟩ : ByteArray), .slice none 0 0]) ?_ 3 _ rfl; (with_reducible repeat (first | refine blk_drewN ?_ _ | refine blk_drew ?_ | refine blk_alloc ?_ _)); refine blk_put (cs := #[.int .i64 t175, .int .i64 t176, .int .i64 0, .int .i64 0, .string (⟨#[]⟩ : ByteArray), .slice none 0 0]) ?_ 2 _ rfl; (with_reducible repeat (first | refine blk_drewN ?_ _ | refine blk_drew ?_ | refine blk_alloc ?_ _)); refine blk_put (cs := #[.int .i64 t175, .int .i64 0, .int .i64 0, .int .i64 0, .string (⟨#[]⟩ : ByteArray), .slice none 0 0]) ?_ 1 _ rfl; (with_reducible repeat (first | refine blk_drewN ?_ _ | refine blk_drew ?_ | refine blk_alloc ?_ _)); refine blk_put (cs := #[.int .i64 0, .int .i64 0, .int .i64 0, .int .i64 0, .string (⟨#[]⟩ : ByteArray), .slice none 0 0]) ?_ 0 _ rfl; (with_reducible repeat (first | refine blk_drewN ?_ _ | refine blk_drew ?_ | refine blk_alloc ?_ _)); exact BK184.out) hb); have n3_ := Aside0.mk (below_step (by repeat (first | (with_reducible first | exact HB.out | apply below_alloc | apply pw_below_drewN | apply below_drew1 | refine below_set ?_ GE184.out) | exact HB.out)) hb); clear HO182; clear BK184; clear HB; have HO182 := n0_; have HO192 := n1_; have BK184 := n2_; have HB := n3_; clear n0_ n1_ n2_ n3_; (try clear hb); (try clear hb2); (try clear hk); (try clear hi); (try clear ho0)) | ((with_reducible refine gate_dst (N := 7) rfl ?_); (try (refine gate_guard (by rfl) ?_; dsimp only)); refine box_event ?hg (N := 7) ?hd (cs := #[.int .i64 0, .int .i64 0, .int .i64 0, .int .i64 0, .string (⟨#[]⟩ : ByteArray), .slice none 0 0]) (t := 25) ?hr ?_; (case hd => rfl); (case hg => rfl); (case hr => first | (go_simp; done) | (go_simp; rfl)); intro gb194 hg w17 hbox hb; have n0_ := Aside0.mk (Kd.R_below (by (with_reducible repeat (first | apply Kd.R_alloc | apply Kd.R_drewN | apply Kd.R_drew)); exact HO182.out) hb); have n1_ := Aside0.mk (Kd.R_below (by (with_reducible repeat (first | apply Kd.R_alloc | apply Kd.R_drewN | apply Kd.R_drew)); exact HO192.out) hb); have n2_ := Aside0.mk (blk_below (g := gb184) (o := .cells #[.int .i64 t175, .int .i64 t176, .int .i64 t177, .int .i64 t178, .string t179, .slice Ao15 t180.length co15] 25 (0, 0)) (by (with_reducible repeat (first | refine blk_drewN ?_ _ | refine blk_drew ?_ | refine blk_alloc ?_ _)); exact BK184.out) hb); have n3_ := Aside0.mk (below_step (by repeat (first | (with_reducible first | exact HB.out | apply below_alloc | apply pw_below_drewN | apply below_drew1 | refine below_set ?_ GE184.out) | exact HB.out)) hb); have n4_ := Aside0.mk (hbox); have n5_ := Aside0.mk ((by rw [hg]; exact (below_size (by repeat (first | (with_reducible first | exact HB.out | apply below_alloc | apply pw_below_drewN | apply below_drew1 | refine below_set ?_ GE184.out) | exact HB.out))) : w.heap.size ≤ gb194)); have n6_ := Aside0.mk ((by rw [hg]; exact (below_size (by repeat (first | (with_reducible first | exact HB.out | apply below_alloc | apply pw_below_drewN | apply below_drew1 | refine below_set ?_ GE184.out) | exact HB.out))) : w.heap.size ≤ gb194)); have n7_ := Aside0.mk ((by rw [hg]; exact Nat.ne_of_lt (blk_lt (g := gb184) (o := .cells #[.int .i64 t175, .int .i64 t176, .int .i64 t177, .int .i64 t178, .string t179, .slice Ao15 t180.length co15] 25 (0, 0)) (by (with_reducible repeat (first | refine blk_drewN ?_ _ | refine blk_drew ?_ | refine blk_alloc ?_ _)); exact BK184.out)) : gb184 ≠ gb194)); have n8_ := Aside0.mk ((by rw [hg]; exact Nat.ne_of_gt (blk_lt (g := gb184) (o := .cells #[.int .i64 t175, .int .i64 t176, .int .i64 t177, .int .i64 t178, .string t179, .slice Ao15 t180.length co15] 25 (0, 0)) (by (with_reducible repeat (first | refine blk_drewN ?_ _ | refine blk_drew ?_ | refine blk_alloc ?_ _)); exact BK184.out)) : gb194 ≠ gb184)); clear HO182; clear HO192; clear BK184; clear HB; have HO182 := n0_; have HO192 := n1_; have BK184 := n2_; have HB := n3_; have BK194 := n4_; have GW194 := n5_; have GE194 := n6_; have NB184_194 := n7_; have NB194_184 := n8_; clear n0_ n1_ n2_ n3_ n4_ n5_ n6_ n7_ n8_; clear hb hbox hg; have hnb18 := NB194_184.out; have hnc18 := NB184_194.out; have hcz19_0 : w17.cell? ⟨gb194, 0, none⟩ = some (.int .i64 0) := (blk_cell BK194.out 0).trans rfl; have hcz19_1 : w17.cell? ⟨gb194, 1, none⟩ = some (.int .i64 0) := (blk_cell BK194.out 1).trans rfl; have hcz19_2 : w17.cell? ⟨gb194, 2, none⟩ = some (.int .i64 0) := (blk_cell BK194.out 2).trans rfl; have hcz19_3 : w17.cell? ⟨gb194, 3, none⟩ = some (.int .i64 0) := (blk_cell BK194.out 3).trans rfl; have hcz19_4 : w17.cell? ⟨gb194, 4, none⟩ = some (.string (⟨#[]⟩ : ByteArray)) := (blk_cell BK194.out 4).trans rfl; have hcz19_5 : w17.cell? ⟨gb194, 5, none⟩ = some (.slice none 0 0) := (blk_cell BK194.out 5).trans rfl; have hfz19_0 := blk_frozen BK194.out 0; have hfz19_1 := blk_frozen BK194.out 1; have hfz19_2 := blk_frozen BK194.out 2; have hfz19_3 := blk_frozen BK194.out 3; have hfz19_4 := blk_frozen BK194.out 4; have hfz19_5 := blk_frozen BK194.out 5; obtain ⟨Ao20, co20, eo20⟩ := Kd.R_slice HO192.out; subst eo20))
          (try simp only [Act.put, List.setIfInBounds_toArray, List.set_cons_zero, List.set_cons_succ])
          go_cut [35] (fun v35 wc => ∃ (kq : Nat) (x35_10 : Bool), v35 = .bool x35_10 ∧ Aside0 (pannierlaw20_AskOne.j1 kq a0 a1 x35_10 t175 t176 t177 t178 t179 t180 t185 t186 t187 t188 t189 t190 = some r) ∧ Aside0 (kq ≤ kj4) ∧ Aside0 (Kd.R (Kd.int .u8) 5 wc w.heap.size (fun k_ => some k_ ≠ ((.slice Ao20 t190.length co20) : Value).ownBlock) (.slice Ao15 t180.length co15) t180) ∧ Aside0 (Kd.R (Kd.int .u8) 5 wc w.heap.size (fun k_ => some k_ ≠ ((.slice Ao15 t180.length co15) : Value).ownBlock) (.slice Ao20 t190.length co20) t190) ∧ Aside0 (wc.heap[gb184]? = some (.cells #[.int .i64 t175, .int .i64 t176, .int .i64 t177, .int .i64 t178, .string t179, (.slice Ao15 t180.length co15)] 25 (0, 0))) ∧ Aside0 (wc.heap[gb194]? = some (.cells #[.int .i64 t185, .int .i64 t186, .int .i64 t187, .int .i64 t188, .string t189, (.slice Ao20 t190.length co20)] 25 (0, 0))) ∧ Aside0 (Below w.heap.size w wc))
          case first =>
            have H := HC11.out
            clear HC11
            by_cases c21 : t183 = 0
            · rw [if_pos c21] at H
              have c21b0 : (t183 == 0) = true := beq_iff_eq.mpr c21
              have c21b1 : (t183 != 0) = false := bne_eq_false_iff_eq.mpr c21
              clear c21
              (first | rw [c21b0] | (simp only [i64_w, i32_w]; rw [c21b0]) | skip)
              have H' := Aside0.mk H
              clear H
              go_wp2
              go_meet
              case rel => exact ⟨_, ((t193 != 0)), (by first | rfl | (simp; done) | (simp; exact (fun l_ : List UInt8 => (by cases l_ <;> rfl : l_.isEmpty = !(l_ != []))) _) | (simp [*]; done)), H', ⟨by have := HJ4.out; first | omega | exact Nat.le_refl _⟩, ⟨by (with_reducible repeat (first | apply Kd.R_alloc | apply Kd.R_drewN | apply Kd.R_drew)); exact Kd.R_mono (Kd.R_far (p := ⟨gb194, 5, none⟩) (Kd.R_far (p := ⟨gb194, 4, none⟩) (Kd.R_far (p := ⟨gb194, 3, none⟩) (Kd.R_far (p := ⟨gb194, 2, none⟩) (Kd.R_far (p := ⟨gb194, 1, none⟩) (Kd.R_far (p := ⟨gb194, 0, none⟩) (Kd.R_types HO182.out BK194.out (by decide)) (fun _ hk => hk.2) (.int .i64 t185)) (fun _ hk => hk.2) (.int .i64 t186)) (fun _ hk => hk.2) (.int .i64 t187)) (fun _ hk => hk.2) (.int .i64 t188)) (fun _ hk => hk.2) (.string t189)) (fun _ hk => hk.2) (.slice Ao20 t190.length co20)) (fun _ hk => hk.1.2)⟩, ⟨by (with_reducible repeat (first | apply Kd.R_alloc | apply Kd.R_drewN | apply Kd.R_drew)); exact Kd.R_mono (Kd.R_far (p := ⟨gb194, 5, none⟩) (Kd.R_far (p := ⟨gb194, 4, none⟩) (Kd.R_far (p := ⟨gb194, 3, none⟩) (Kd.R_far (p := ⟨gb194, 2, none⟩) (Kd.R_far (p := ⟨gb194, 1, none⟩) (Kd.R_far (p := ⟨gb194, 0, none⟩) (Kd.R_types HO192.out BK194.out (by decide)) (fun _ hk => hk.2) (.int .i64 t185)) (fun _ hk => hk.2) (.int .i64 t186)) (fun _ hk => hk.2) (.int .i64 t187)) (fun _ hk => hk.2) (.int .i64 t188)) (fun _ hk => hk.2) (.string t189)) (fun _ hk => hk.2) (.slice Ao20 t190.length co20)) (fun _ hk => hk.1.2)⟩, ⟨by (with_reducible repeat (first | refine blk_drewN ?_ _ | refine blk_drew ?_ | refine blk_alloc ?_ _)); refine blk_far ?_ NB184_194.out _; (with_reducible repeat (first | refine blk_drewN ?_ _ | refine blk_drew ?_ | refine blk_alloc ?_ _)); refine blk_far ?_ NB184_194.out _; (with_reducible repeat (first | refine blk_drewN ?_ _ | refine blk_drew ?_ | refine blk_alloc ?_ _)); refine blk_far ?_ NB184_194.out _; (with_reducible repeat (first | refine blk_drewN ?_ _ | refine blk_drew ?_ | refine blk_alloc ?_ _)); refine blk_far ?_ NB184_194.out _; (with_reducible repeat (first | refine blk_drewN ?_ _ | refine blk_drew ?_ | refine blk_alloc ?_ _)); refine blk_far ?_ NB184_194.out _; (with_reducible repeat (first | refine blk_drewN ?_ _ | refine blk_drew ?_ | refine blk_alloc ?_ _)); refine blk_far ?_ NB184_194.out _; (with_reducible repeat (first | refine blk_drewN ?_ _ | refine blk_drew ?_ | refine blk_alloc ?_ _)); exact BK184.out⟩, ⟨by (with_reducible repeat (first | refine blk_drewN ?_ _ | refine blk_drew ?_ | refine blk_alloc ?_ _)); refine blk_put (cs := #[.int .i64 t185, .int .i64 t186, .int .i64 t187, .int .i64 t188, .string t189, .slice none 0 0]) ?_ 5 _ rfl; (with_reducible repeat (first | refine blk_drewN ?_ _ | refine blk_drew ?_ | refine blk_alloc ?_ _)); refine blk_put (cs := #[.int .i64 t185, .int .i64 t186, .int .i64 t187, .int .i64 t188, .string (⟨#[]⟩ : ByteArray), .slice none 0 0]) ?_ 4 _ rfl; (with_reducible repeat (first | refine blk_drewN ?_ _ | refine blk_drew ?_ | refine blk_alloc ?_ _)); refine blk_put (cs := #[.int .i64 t185, .int .i64 t186, .int .i64 t187, .int .i64 0, .string (⟨#[]⟩ : ByteArray), .slice none 0 0]) ?_ 3 _ rfl; (with_reducible repeat (first | refine blk_drewN ?_ _ | refine blk_drew ?_ | refine blk_alloc ?_ _)); refine blk_put (cs := #[.int .i64 t185, .int .i64 t186, .int .i64 0, .int .i64 0, .string (⟨#[]⟩ : ByteArray), .slice none 0 0]) ?_ 2 _ rfl; (with_reducible repeat (first | refine blk_drewN ?_ _ | refine blk_drew ?_ | refine blk_alloc ?_ _)); refine blk_put (cs := #[.int .i64 t185, .int .i64 0, .int .i64 0, .int .i64 0, .string (⟨#[]⟩ : ByteArray), .slice none 0 0]) ?_ 1 _ rfl; (with_reducible repeat (first | refine blk_drewN ?_ _ | refine blk_drew ?_ | refine blk_alloc ?_ _)); refine blk_put (cs := #[.int .i64 0, .int .i64 0, .int .i64 0, .int .i64 0, .string (⟨#[]⟩ : ByteArray), .slice none 0 0]) ?_ 0 _ rfl; (with_reducible repeat (first | refine blk_drewN ?_ _ | refine blk_drew ?_ | refine blk_alloc ?_ _)); exact BK194.out⟩, ⟨by repeat (first | (with_reducible first | exact HB.out | apply below_alloc | apply pw_below_drewN | apply below_drew1 | refine below_set ?_ GE184.out | refine below_set ?_ GE194.out) | exact HB.out)⟩⟩
            · rw [if_neg c21] at H
              have c21b0 : (t183 == 0) = false := beq_eq_false_iff_ne.mpr c21
              have c21b1 : (t183 != 0) = true := bne_iff_ne.mpr c21
              (first | rw [c21b0] | (simp only [i64_w, i32_w]; rw [c21b0]) | skip)
              have H' := Aside0.mk H
              clear H
              go_wp2
              go_meet
              case rel => exact ⟨_, (true), (by first | rfl | (simp; done) | (simp; exact (fun l_ : List UInt8 => (by cases l_ <;> rfl : l_.isEmpty = !(l_ != []))) _) | (simp [*]; done)), H', ⟨by have := HJ4.out; first | omega | exact Nat.le_refl _⟩, ⟨by (with_reducible repeat (first | apply Kd.R_alloc | apply Kd.R_drewN | apply Kd.R_drew)); exact Kd.R_mono (Kd.R_far (p := ⟨gb194, 5, none⟩) (Kd.R_far (p := ⟨gb194, 4, none⟩) (Kd.R_far (p := ⟨gb194, 3, none⟩) (Kd.R_far (p := ⟨gb194, 2, none⟩) (Kd.R_far (p := ⟨gb194, 1, none⟩) (Kd.R_far (p := ⟨gb194, 0, none⟩) (Kd.R_types HO182.out BK194.out (by decide)) (fun _ hk => hk.2) (.int .i64 t185)) (fun _ hk => hk.2) (.int .i64 t186)) (fun _ hk => hk.2) (.int .i64 t187)) (fun _ hk => hk.2) (.int .i64 t188)) (fun _ hk => hk.2) (.string t189)) (fun _ hk => hk.2) (.slice Ao20 t190.length co20)) (fun _ hk => hk.1.2)⟩, ⟨by (with_reducible repeat (first | apply Kd.R_alloc | apply Kd.R_drewN | apply Kd.R_drew)); exact Kd.R_mono (Kd.R_far (p := ⟨gb194, 5, none⟩) (Kd.R_far (p := ⟨gb194, 4, none⟩) (Kd.R_far (p := ⟨gb194, 3, none⟩) (Kd.R_far (p := ⟨gb194, 2, none⟩) (Kd.R_far (p := ⟨gb194, 1, none⟩) (Kd.R_far (p := ⟨gb194, 0, none⟩) (Kd.R_types HO192.out BK194.out (by decide)) (fun _ hk => hk.2) (.int .i64 t185)) (fun _ hk => hk.2) (.int .i64 t186)) (fun _ hk => hk.2) (.int .i64 t187)) (fun _ hk => hk.2) (.int .i64 t188)) (fun _ hk => hk.2) (.string t189)) (fun _ hk => hk.2) (.slice Ao20 t190.length co20)) (fun _ hk => hk.1.2)⟩, ⟨by (with_reducible repeat (first | refine blk_drewN ?_ _ | refine blk_drew ?_ | refine blk_alloc ?_ _)); refine blk_far ?_ NB184_194.out _; (with_reducible repeat (first | refine blk_drewN ?_ _ | refine blk_drew ?_ | refine blk_alloc ?_ _)); refine blk_far ?_ NB184_194.out _; (with_reducible repeat (first | refine blk_drewN ?_ _ | refine blk_drew ?_ | refine blk_alloc ?_ _)); refine blk_far ?_ NB184_194.out _; (with_reducible repeat (first | refine blk_drewN ?_ _ | refine blk_drew ?_ | refine blk_alloc ?_ _)); refine blk_far ?_ NB184_194.out _; (with_reducible repeat (first | refine blk_drewN ?_ _ | refine blk_drew ?_ | refine blk_alloc ?_ _)); refine blk_far ?_ NB184_194.out _; (with_reducible repeat (first | refine blk_drewN ?_ _ | refine blk_drew ?_ | refine blk_alloc ?_ _)); refine blk_far ?_ NB184_194.out _; (with_reducible repeat (first | refine blk_drewN ?_ _ | refine blk_drew ?_ | refine blk_alloc ?_ _)); exact BK184.out⟩, ⟨by (with_reducible repeat (first | refine blk_drewN ?_ _ | refine blk_drew ?_ | refine blk_alloc ?_ _)); refine blk_put (cs := #[.int .i64 t185, .int .i64 t186, .int .i64 t187, .int .i64 t188, .string t189, .slice none 0 0]) ?_ 5 _ rfl; (with_reducible repeat (first | refine blk_drewN ?_ _ | refine blk_drew ?_ | refine blk_alloc ?_ _)); refine blk_put (cs := #[.int .i64 t185, .int .i64 t186, .int .i64 t187, .int .i64 t188, .string (⟨#[]⟩ : ByteArray), .slice none 0 0]) ?_ 4 _ rfl; (with_reducible repeat (first | refine blk_drewN ?_ _ | refine blk_drew ?_ | refine blk_alloc ?_ _)); refine blk_put (cs := #[.int .i64 t185, .int .i64 t186, .int .i64 t187, .int .i64 0, .string (⟨#[]⟩ : ByteArray), .slice none 0 0]) ?_ 3 _ rfl; (with_reducible repeat (first | refine blk_drewN ?_ _ | refine blk_drew ?_ | refine blk_alloc ?_ _)); refine blk_put (cs := #[.int .i64 t185, .int .i64 t186, .int .i64 0, .int .i64 0, .string (⟨#[]⟩ : ByteArray), .slice none 0 0]) ?_ 2 _ rfl; (with_reducible repeat (first | refine blk_drewN ?_ _ | refine blk_drew ?_ | refine blk_alloc ?_ _)); refine blk_put (cs := #[.int .i64 t185, .int .i64 0, .int .i64 0, .int .i64 0, .string (⟨#[]⟩ : ByteArray), .slice none 0 0]) ?_ 1 _ rfl; (with_reducible repeat (first | refine blk_drewN ?_ _ | refine blk_drew ?_ | refine blk_alloc ?_ _)); refine blk_put (cs := #[.int .i64 0, .int .i64 0, .int .i64 0, .int .i64 0, .string (⟨#[]⟩ : ByteArray), .slice none 0 0]) ?_ 0 _ rfl; (with_reducible repeat (first | refine blk_drewN ?_ _ | refine blk_drew ?_ | refine blk_alloc ?_ _)); exact BK194.out⟩, ⟨by repeat (first | (with_reducible first | exact HB.out | apply below_alloc | apply pw_below_drewN | apply below_drew1 | refine below_set ?_ GE184.out | refine below_set ?_ GE194.out) | exact HB.out)⟩⟩
          case rest =>
            clear HC11
            try clear c1
            try clear c2
            try clear p2
            try clear c4
            try clear c7
            try clear c7b0
            try clear c7b1
            try clear c8
            try clear c9
            try clear c10
            try clear c18
            try clear c21
            try clear c21b0
            try clear c21b1
            try clear hcz14_0
            try clear hcz14_1
            try clear hcz14_2
            try clear hcz14_3
            try clear hcz14_4
            try clear hcz14_5
            try clear hcz19_0
            try clear hcz19_1
            try clear hcz19_2
            try clear hcz19_3
            try clear hcz19_4
            try clear hcz19_5
            try clear hfz14_0
            try clear hfz14_1
            try clear hfz14_2
            try clear hfz14_3
            try clear hfz14_4
            try clear hfz14_5
            try clear hfz19_0
            try clear hfz19_1
            try clear hfz19_2
            try clear hfz19_3
            try clear hfz19_4
            try clear hfz19_5
            try clear p2
            obtain ⟨kq, x35_10, rfl, HA, HJ10, HO_185005, HO_195005, BK184, BK194, HB⟩ := hcut
            cases kq with
            | zero => exact absurd HA.out (by simp [pannierlaw20_AskOne.j1])
            | succ kj10 =>
              have H := HA.out
              clear HA
              simp only [pannierlaw20_AskOne.j1] at H
              by_cases c22 : x35_10 = true
              · subst c22
                have H1 : (some true) = some r := by rw [if_pos rfl] at H; exact H
                clear H
                have H := H1
                clear H1
                obtain rfl := Option.some.inj H
                go_wp2
                go_ret
                exact ⟨by first | rfl | (simp [errW_none, errW_some] <;> rfl) | (simp [*, errW_none, errW_some] <;> rfl), by repeat (first | (with_reducible first | exact HB.out | apply below_alloc | apply pw_below_drewN | apply below_drew1 | refine below_set ?_ GE184.out | refine below_set ?_ GE194.out) | exact HB.out)⟩
              · replace c22 := Bool.eq_false_iff.mpr c22
                subst c22
                have H1 : (pannierlaw20_AskOne.l0 kj10 a0 a1 t175 t176 t177 t178 t179 t180 t185 t186 t187 t188 t189 t190) = some r := by rw [if_neg (show ¬ (false = true) by decide)] at H; exact H
                clear H
                have H := H1
                clear H1
                have HC23 := Aside0.mk H
                clear H
                go_upto_block 0 with (fail)
                go_cut [0] (fun v0 wc => ∃ (kq : Nat) (x0_22 : ByteArray), v0 = .string x0_22 ∧ Aside0 (pannierlaw20_AskOne.j3 kq x0_22 a1 t175 t176 t177 t178 t179 t180 t185 t186 t187 t188 t189 t190 = some r) ∧ Aside0 (kq ≤ kj10) ∧ Aside0 (Kd.R (Kd.int .u8) 5 wc w.heap.size (fun k_ => some k_ ≠ ((.slice Ao20 t190.length co20) : Value).ownBlock) (.slice Ao15 t180.length co15) t180) ∧ Aside0 (Kd.R (Kd.int .u8) 5 wc w.heap.size (fun k_ => some k_ ≠ ((.slice Ao15 t180.length co15) : Value).ownBlock) (.slice Ao20 t190.length co20) t190) ∧ Aside0 (wc.heap[gb184]? = some (.cells #[.int .i64 t175, .int .i64 t176, .int .i64 t177, .int .i64 t178, .string t179, (.slice Ao15 t180.length co15)] 25 (0, 0))) ∧ Aside0 (wc.heap[gb194]? = some (.cells #[.int .i64 t185, .int .i64 t186, .int .i64 t187, .int .i64 t188, .string t189, (.slice Ao20 t190.length co20)] 25 (0, 0))) ∧ Aside0 (Below w.heap.size w wc))
                case first =>
                  have H := HC23.out
                  clear HC23
                  have H' := Aside0.mk H
                  clear H
                  go_wp2
                  go_loopg [0] kj10 (fun kq v0 w' => ∃ (x0_3 : ByteArray), v0 = .string x0_3 ∧ Aside0 (pannierlaw20_AskOne.l0 kq x0_3 a1 t175 t176 t177 t178 t179 t180 t185 t186 t187 t188 t189 t190 = some r) ∧ Aside0 (kq ≤ kj10) ∧ Aside0 (Kd.R (Kd.int .u8) 5 w' w.heap.size (fun k_ => some k_ ≠ ((.slice Ao20 t190.length co20) : Value).ownBlock) (.slice Ao15 t180.length co15) t180) ∧ Aside0 (Kd.R (Kd.int .u8) 5 w' w.heap.size (fun k_ => some k_ ≠ ((.slice Ao15 t180.length co15) : Value).ownBlock) (.slice Ao20 t190.length co20) t190) ∧ Aside0 (w'.heap[gb184]? = some (.cells #[.int .i64 t175, .int .i64 t176, .int .i64 t177, .int .i64 t178, .string t179, (.slice Ao15 t180.length co15)] 25 (0, 0))) ∧ Aside0 (w'.heap[gb194]? = some (.cells #[.int .i64 t185, .int .i64 t186, .int .i64 t187, .int .i64 t188, .string t189, (.slice Ao20 t190.length co20)] 25 (0, 0))) ∧ Aside0 (Below w.heap.size w w'))
                  case atStart => exact ⟨(a0), (by first | rfl | (simp; done) | (simp; exact (fun l_ : List UInt8 => (by cases l_ <;> rfl : l_.isEmpty = !(l_ != []))) _) | (simp [*]; done)), H', ⟨Nat.le_refl _⟩, ⟨by (with_reducible repeat (first | apply Kd.R_alloc | apply Kd.R_drewN | apply Kd.R_drew)); exact HO_185005.out⟩, ⟨by (with_reducible repeat (first | apply Kd.R_alloc | apply Kd.R_drewN | apply Kd.R_drew)); exact HO_195005.out⟩, ⟨by (with_reducible repeat (first | refine blk_drewN ?_ _ | refine blk_drew ?_ | refine blk_alloc ?_ _)); exact BK184.out⟩, ⟨by (with_reducible repeat (first | refine blk_drewN ?_ _ | refine blk_drew ?_ | refine blk_alloc ?_ _)); exact BK194.out⟩, ⟨by repeat (first | (with_reducible first | exact HB.out | apply below_alloc | apply pw_below_drewN | apply below_drew1 | refine below_set ?_ GE184.out | refine below_set ?_ GE194.out) | exact HB.out)⟩⟩
                  case round =>
                    clear H'
                    try clear c1
                    try clear c2
                    try clear p2
                    try clear c4
                    try clear c7
                    try clear c7b0
                    try clear c7b1
                    try clear c8
                    try clear c9
                    try clear c10
                    try clear c18
                    try clear c21
                    try clear c21b0
                    try clear c21b1
                    try clear c22
                    try clear hcz14_0
                    try clear hcz14_1
                    try clear hcz14_2
                    try clear hcz14_3
                    try clear hcz14_4
                    try clear hcz14_5
                    try clear hcz19_0
                    try clear hcz19_1
                    try clear hcz19_2
                    try clear hcz19_3
                    try clear hcz19_4
                    try clear hcz19_5
                    try clear hfz14_0
                    try clear hfz14_1
                    try clear hfz14_2
                    try clear hfz14_3
                    try clear hfz14_4
                    try clear hfz14_5
                    try clear hfz19_0
                    try clear hfz19_1
                    try clear hfz19_2
                    try clear hfz19_3
                    try clear hfz19_4
                    try clear hfz19_5
                    try clear p2
                    obtain ⟨x0_3, rfl, HA, HK3, HO_185005, HO_195005, BK184, BK194, HB⟩ := hrel
                    cases gk with
                    | zero => exact absurd HA.out (by simp [pannierlaw20_AskOne.l0])
                    | succ k3 =>
                      have H := HA.out
                      clear HA
                      simp only [pannierlaw20_AskOne.l0] at H
                      by_cases c24 : (x0_3.size : Int) > 0
                      · rw [if_pos c24] at H
                        have c24b0 : decide (0 < (x0_3.size : Int)) = true := decide_eq_true c24
                        have c24b1 : decide (0 < x0_3.size) = true := decide_eq_true (by omega)
                        clear c24
                        (first | rw [c24b0] | (simp only [i64_w, i32_w]; rw [c24b0]) | skip)
                        obtain ⟨ji25, hji25⟩ : ∃ j_ : Int, (wrap64 ((x0_3.size : Int) - 1)) = j_ := ⟨_, rfl⟩
                        replace H : (if 0 ≤ (ji25) then (if (ji25) < (x0_3.size : Int) then (if (bt x0_3 (ji25)) = 32 then (if t179.toList = ([] : List UInt8) then (if (ji25) ≤ (x0_3.size : Int) then (pannierlaw20_AskOne.l0 k3 (x0_3.extract 0 ((ji25) : Int).toNat) a1 t175 t176 t177 t178 t179 t180 t185 t186 t187 t188 t189 t190) else (none)) else (pannierlaw20_AskOne.j3 k3 x0_3 a1 t175 t176 t177 t178 t179 t180 t185 t186 t187 t188 t189 t190)) else (pannierlaw20_AskOne.j3 k3 x0_3 a1 t175 t176 t177 t178 t179 t180 t185 t186 t187 t188 t189 t190)) else (none)) else (none)) = some r := by first | (rw [hji25] at H; exact H) | (simp only [hji25] at H ⊢; exact H)
                        have hji25w : (IntKind.i64.wrap ((x0_3.size : Int) - 1)) = ji25 := (i64_w _).trans hji25
                        by_cases c26 : 0 ≤ (ji25)
                        · rw [if_pos c26] at H
                          have c26b0 : decide (0 ≤ (ji25)) = true := decide_eq_true c26
                          clear c26
                          by_cases c27 : (ji25) < (x0_3.size : Int)
                          · rw [if_pos c27] at H
                            have c27b0 : decide ((ji25) < (x0_3.size : Int)) = true := decide_eq_true c27
                            clear c27
                            by_cases c29 : (bt x0_3 (ji25)) = 32
                            · rw [if_pos c29] at H
                              have c29b0 : ((bt x0_3 (ji25)) == 32) = true := beq_iff_eq.mpr c29
                              have c29b1 : ((bt x0_3 (ji25)) != 32) = false := bne_eq_false_iff_eq.mpr c29
                              clear c29
                              by_cases c30 : t179.toList = ([] : List UInt8)
                              · rw [if_pos c30] at H
                                have c30b0 : (t179.toList == ([] : List UInt8)) = true := beq_iff_eq.mpr c30
                                have c30b1 : (t179.toList != ([] : List UInt8)) = false := bne_eq_false_iff_eq.mpr c30
                                clear c30
                                have c31b0 := eq_true (of_decide_eq_true (by first | (with_reducible assumption) | assumption) : 0 ≤ (ji25))
                                by_cases c32 : (ji25) ≤ (x0_3.size : Int)
                                · rw [if_pos c32] at H
                                  have c32b0 := eq_true c32
                                  have c32b1 : decide ((ji25) ≤ (x0_3.size : Int)) = true := decide_eq_true c32
                                  clear c32
                                  have H' := Aside0.mk H
                                  clear H
                                  have p28 : 0 ≤ ((ji25) : Int) := of_decide_eq_true (by first | (with_reducible assumption) | assumption)
                                  have q28 : (ji25) < (x0_3.size : Int) := of_decide_eq_true (by first | (with_reducible assumption) | assumption)
                                  have hx28 := bt_at x0_3 (ji25)
                                  replace p28 := eq_true p28
                                  replace q28 := eq_true q28
                                  have hnb33 := NB184_194.out
                                  have hnc33 := NB194_184.out
                                  have hcz34_0 : wr.cell? ⟨gb184, 0, none⟩ = some (.int .i64 t175) := (blk_cell BK184.out 0).trans rfl
                                  have hcz34_1 : wr.cell? ⟨gb184, 1, none⟩ = some (.int .i64 t176) := (blk_cell BK184.out 1).trans rfl
                                  have hcz34_2 : wr.cell? ⟨gb184, 2, none⟩ = some (.int .i64 t177) := (blk_cell BK184.out 2).trans rfl
                                  have hcz34_3 : wr.cell? ⟨gb184, 3, none⟩ = some (.int .i64 t178) := (blk_cell BK184.out 3).trans rfl
                                  have hcz34_4 : wr.cell? ⟨gb184, 4, none⟩ = some (.string t179) := (blk_cell BK184.out 4).trans rfl
                                  have hcz34_5 : wr.cell? ⟨gb184, 5, none⟩ = some (.slice Ao15 t180.length co15) := (blk_cell BK184.out 5).trans rfl
                                  have hfz34_0 := blk_frozen BK184.out 0
                                  have hfz34_1 := blk_frozen BK184.out 1
                                  have hfz34_2 := blk_frozen BK184.out 2
                                  have hfz34_3 := blk_frozen BK184.out 3
                                  have hfz34_4 := blk_frozen BK184.out 4
                                  have hfz34_5 := blk_frozen BK184.out 5
                                  go_wp2
                                  go_roundg k3
                                  case measure => have := HJ4.out; have := HJ10.out; have := HK3.out; omega
                                  case rel => exact ⟨(x0_3.extract 0 ((ji25) : Int).toNat), (by first | rfl | (simp; done) | (simp only [← hji25] <;> (first | rfl | simp)) | (simp [*]; done)), H', ⟨by have := HJ4.out; have := HJ10.out; have := HK3.out; omega⟩, ⟨by (with_reducible repeat (first | apply Kd.R_alloc | apply Kd.R_drewN | apply Kd.R_drew)); exact HO_185005.out⟩, ⟨by (with_reducible repeat (first | apply Kd.R_alloc | apply Kd.R_drewN | apply Kd.R_drew)); exact HO_195005.out⟩, ⟨by (with_reducible repeat (first | refine blk_drewN ?_ _ | refine blk_drew ?_ | refine blk_alloc ?_ _)); exact BK184.out⟩, ⟨by (with_reducible repeat (first | refine blk_drewN ?_ _ | refine blk_drew ?_ | refine blk_alloc ?_ _)); exact BK194.out⟩, ⟨by repeat (first | (with_reducible first | exact HB.out | apply below_alloc | apply pw_below_drewN | apply below_drew1 | refine below_set ?_ GE184.out | refine below_set ?_ GE194.out) | exact HB.out)⟩⟩
                                · rw [if_neg c32] at H
                                  exact absurd H (by simp)
                              · rw [if_neg c30] at H
                                have c30b0 : (t179.toList == ([] : List UInt8)) = false := beq_eq_false_iff_ne.mpr c30
                                have c30b1 : (t179.toList != ([] : List UInt8)) = true := bne_iff_ne.mpr c30
                                have H' := Aside0.mk H
                                clear H
                                have p28 : 0 ≤ ((ji25) : Int) := of_decide_eq_true (by first | (with_reducible assumption) | assumption)
                                have q28 : (ji25) < (x0_3.size : Int) := of_decide_eq_true (by first | (with_reducible assumption) | assumption)
                                have hx28 := bt_at x0_3 (ji25)
                                replace p28 := eq_true p28
                                replace q28 := eq_true q28
                                have hnb35 := NB184_194.out
                                have hnc35 := NB194_184.out
                                have hcz36_0 : wr.cell? ⟨gb184, 0, none⟩ = some (.int .i64 t175) := (blk_cell BK184.out 0).trans rfl
                                have hcz36_1 : wr.cell? ⟨gb184, 1, none⟩ = some (.int .i64 t176) := (blk_cell BK184.out 1).trans rfl
                                have hcz36_2 : wr.cell? ⟨gb184, 2, none⟩ = some (.int .i64 t177) := (blk_cell BK184.out 2).trans rfl
                                have hcz36_3 : wr.cell? ⟨gb184, 3, none⟩ = some (.int .i64 t178) := (blk_cell BK184.out 3).trans rfl
                                have hcz36_4 : wr.cell? ⟨gb184, 4, none⟩ = some (.string t179) := (blk_cell BK184.out 4).trans rfl
                                have hcz36_5 : wr.cell? ⟨gb184, 5, none⟩ = some (.slice Ao15 t180.length co15) := (blk_cell BK184.out 5).trans rfl
                                have hfz36_0 := blk_frozen BK184.out 0
                                have hfz36_1 := blk_frozen BK184.out 1
                                have hfz36_2 := blk_frozen BK184.out 2
                                have hfz36_3 := blk_frozen BK184.out 3
                                have hfz36_4 := blk_frozen BK184.out 4
                                have hfz36_5 := blk_frozen BK184.out 5
                                go_wp2
                                go_meet
                                case rel => exact ⟨_, (x0_3), (by first | rfl | (simp; done) | (simp; exact (fun l_ : List UInt8 => (by cases l_ <;> rfl : l_.isEmpty = !(l_ != []))) _) | (simp [*]; done)), H', ⟨by have := HJ4.out; have := HJ10.out; have := HK3.out; first | omega | exact Nat.le_refl _⟩, ⟨by (with_reducible repeat (first | apply Kd.R_alloc | apply Kd.R_drewN | apply Kd.R_drew)); exact HO_185005.out⟩, ⟨by (with_reducible repeat (first | apply Kd.R_alloc | apply Kd.R_drewN | apply Kd.R_drew)); exact HO_195005.out⟩, ⟨by (with_reducible repeat (first | refine blk_drewN ?_ _ | refine blk_drew ?_ | refine blk_alloc ?_ _)); exact BK184.out⟩, ⟨by (with_reducible repeat (first | refine blk_drewN ?_ _ | refine blk_drew ?_ | refine blk_alloc ?_ _)); exact BK194.out⟩, ⟨by repeat (first | (with_reducible first | exact HB.out | apply below_alloc | apply pw_below_drewN | apply below_drew1 | refine below_set ?_ GE184.out | refine below_set ?_ GE194.out) | exact HB.out)⟩⟩
                            · rw [if_neg c29] at H
                              have c29b0 : ((bt x0_3 (ji25)) == 32) = false := beq_eq_false_iff_ne.mpr c29
                              have c29b1 : ((bt x0_3 (ji25)) != 32) = true := bne_iff_ne.mpr c29
                              have H' := Aside0.mk H
                              clear H
                              have p28 : 0 ≤ ((ji25) : Int) := of_decide_eq_true (by first | (with_reducible assumption) | assumption)
                              have q28 : (ji25) < (x0_3.size : Int) := of_decide_eq_true (by first | (with_reducible assumption) | assumption)
                              have hx28 := bt_at x0_3 (ji25)
                              replace p28 := eq_true p28
                              replace q28 := eq_true q28
                              go_wp2
                              go_meet
                              case rel => exact ⟨_, (x0_3), (by first | rfl | (simp; done) | (simp; exact (fun l_ : List UInt8 => (by cases l_ <;> rfl : l_.isEmpty = !(l_ != []))) _) | (simp [*]; done)), H', ⟨by have := HJ4.out; have := HJ10.out; have := HK3.out; first | omega | exact Nat.le_refl _⟩, ⟨by (with_reducible repeat (first | apply Kd.R_alloc | apply Kd.R_drewN | apply Kd.R_drew)); exact HO_185005.out⟩, ⟨by (with_reducible repeat (first | apply Kd.R_alloc | apply Kd.R_drewN | apply Kd.R_drew)); exact HO_195005.out⟩, ⟨by (with_reducible repeat (first | refine blk_drewN ?_ _ | refine blk_drew ?_ | refine blk_alloc ?_ _)); exact BK184.out⟩, ⟨by (with_reducible repeat (first | refine blk_drewN ?_ _ | refine blk_drew ?_ | refine blk_alloc ?_ _)); exact BK194.out⟩, ⟨by repeat (first | (with_reducible first | exact HB.out | apply below_alloc | apply pw_below_drewN | apply below_drew1 | refine below_set ?_ GE184.out | refine below_set ?_ GE194.out) | exact HB.out)⟩⟩
                          · rw [if_neg c27] at H
                            exact absurd H (by simp)
                        · rw [if_neg c26] at H
                          exact absurd H (by simp)
                      · rw [if_neg c24] at H
                        have c24b0 : decide (0 < (x0_3.size : Int)) = false := decide_eq_false c24
                        have c24b1 : decide (0 < x0_3.size) = false := decide_eq_false (by omega)
                        clear c24
                        (first | rw [c24b0] | (simp only [i64_w, i32_w]; rw [c24b0]) | skip)
                        have H' := Aside0.mk H
                        clear H
                        go_wp2
                        go_meet
                        case rel => exact ⟨_, (x0_3), (by first | rfl | (simp; done) | (simp; exact (fun l_ : List UInt8 => (by cases l_ <;> rfl : l_.isEmpty = !(l_ != []))) _) | (simp [*]; done)), H', ⟨by have := HJ4.out; have := HJ10.out; have := HK3.out; first | omega | exact Nat.le_refl _⟩, ⟨by (with_reducible repeat (first | apply Kd.R_alloc | apply Kd.R_drewN | apply Kd.R_drew)); exact HO_185005.out⟩, ⟨by (with_reducible repeat (first | apply Kd.R_alloc | apply Kd.R_drewN | apply Kd.R_drew)); exact HO_195005.out⟩, ⟨by (with_reducible repeat (first | refine blk_drewN ?_ _ | refine blk_drew ?_ | refine blk_alloc ?_ _)); exact BK184.out⟩, ⟨by (with_reducible repeat (first | refine blk_drewN ?_ _ | refine blk_drew ?_ | refine blk_alloc ?_ _)); exact BK194.out⟩, ⟨by repeat (first | (with_reducible first | exact HB.out | apply below_alloc | apply pw_below_drewN | apply below_drew1 | refine below_set ?_ GE184.out | refine below_set ?_ GE194.out) | exact HB.out)⟩⟩
                case rest =>
                  clear HC23
                  try clear c1
                  try clear c2
                  try clear p2
                  try clear q2
                  try clear hx2
                  try clear c3
                  try clear c4
                  try clear p6
                  try clear c7
                  try clear c7b0
                  try clear c7b1
                  try clear c8
                  try clear c9
                  try clear c10
                  try clear c18
                  try clear c21
                  try clear c21b0
                  try clear c21b1
                  try clear c22
                  try clear c24
                  try clear c24b0
                  try clear c24b1
                  try clear c26
                  try clear c26b0
                  try clear c27
                  try clear c27b0
                  try clear p28
                  try clear q28
                  try clear hx28
                  try clear c29
                  try clear c29b0
                  try clear c29b1
                  try clear c30
                  try clear c30b0
                  try clear c30b1
                  try clear c31
                  try clear c31b0
                  try clear c32
                  try clear c32b0
                  try clear c32b1
                  try clear c33
                  try clear c35
                  try clear hcz14_0
                  try clear hcz14_1
                  try clear hcz14_2
                  try clear hcz14_3
                  try clear hcz14_4
                  try clear hcz14_5
                  try clear hcz19_0
                  try clear hcz19_1
                  try clear hcz19_2
                  try clear hcz19_3
                  try clear hcz19_4
                  try clear hcz19_5
                  try clear hcz34_0
                  try clear hcz34_1
                  try clear hcz34_2
                  try clear hcz34_3
                  try clear hcz34_4
                  try clear hcz34_5
                  try clear hcz36_0
                  try clear hcz36_1
                  try clear hcz36_2
                  try clear hcz36_3
                  try clear hcz36_4
                  try clear hcz36_5
                  try clear hfz14_0
                  try clear hfz14_1
                  try clear hfz14_2
                  try clear hfz14_3
                  try clear hfz14_4
                  try clear hfz14_5
                  try clear hfz19_0
                  try clear hfz19_1
                  try clear hfz19_2
                  try clear hfz19_3
                  try clear hfz19_4
                  try clear hfz19_5
                  try clear hfz34_0
                  try clear hfz34_1
                  try clear hfz34_2
                  try clear hfz34_3
                  try clear hfz34_4
                  try clear hfz34_5
                  try clear hfz36_0
                  try clear hfz36_1
                  try clear hfz36_2
                  try clear hfz36_3
                  try clear hfz36_4
                  try clear hfz36_5
                  try clear p2
                  try clear p28
                  try clear q28
                  obtain ⟨kq, x0_22, rfl, HA, HJ22, HO_185005, HO_195005, BK184, BK194, HB⟩ := hcut
                  cases kq with
                  | zero => exact absurd HA.out (by simp [pannierlaw20_AskOne.j3])
                  | succ kj22 =>
                    have H := HA.out
                    clear HA
                    simp only [pannierlaw20_AskOne.j3] at H
                    have H' := Aside0.mk H
                    clear H
                    go_wp2
                    go_loopg [1] kj22 (fun kq v1 w' => ∃ (x1_4 : ByteArray), v1 = .string x1_4 ∧ Aside0 (pannierlaw20_AskOne.l1 kq x0_22 x1_4 t175 t176 t177 t178 t179 t180 t185 t186 t187 t188 t189 t190 = some r) ∧ Aside0 (kq ≤ kj22) ∧ Aside0 (Kd.R (Kd.int .u8) 5 w' w.heap.size (fun k_ => some k_ ≠ ((.slice Ao20 t190.length co20) : Value).ownBlock) (.slice Ao15 t180.length co15) t180) ∧ Aside0 (Kd.R (Kd.int .u8) 5 w' w.heap.size (fun k_ => some k_ ≠ ((.slice Ao15 t180.length co15) : Value).ownBlock) (.slice Ao20 t190.length co20) t190) ∧ Aside0 (w'.heap[gb184]? = some (.cells #[.int .i64 t175, .int .i64 t176, .int .i64 t177, .int .i64 t178, .string t179, (.slice Ao15 t180.length co15)] 25 (0, 0))) ∧ Aside0 (w'.heap[gb194]? = some (.cells #[.int .i64 t185, .int .i64 t186, .int .i64 t187, .int .i64 t188, .string t189, (.slice Ao20 t190.length co20)] 25 (0, 0))) ∧ Aside0 (Below w.heap.size w w'))
                    case atStart => exact ⟨(a1), (by first | rfl | (simp; done) | (simp; exact (fun l_ : List UInt8 => (by cases l_ <;> rfl : l_.isEmpty = !(l_ != []))) _) | (simp [*]; done)), H', ⟨Nat.le_refl _⟩, ⟨by (with_reducible repeat (first | apply Kd.R_alloc | apply Kd.R_drewN | apply Kd.R_drew)); exact HO_185005.out⟩, ⟨by (with_reducible repeat (first | apply Kd.R_alloc | apply Kd.R_drewN | apply Kd.R_drew)); exact HO_195005.out⟩, ⟨by (with_reducible repeat (first | refine blk_drewN ?_ _ | refine blk_drew ?_ | refine blk_alloc ?_ _)); exact BK184.out⟩, ⟨by (with_reducible repeat (first | refine blk_drewN ?_ _ | refine blk_drew ?_ | refine blk_alloc ?_ _)); exact BK194.out⟩, ⟨by repeat (first | (with_reducible first | exact HB.out | apply below_alloc | apply pw_below_drewN | apply below_drew1 | refine below_set ?_ GE184.out | refine below_set ?_ GE194.out) | exact HB.out)⟩⟩
                    case round =>
                      clear H'
                      try clear c1
                      try clear c2
                      try clear p2
                      try clear q2
                      try clear hx2
                      try clear c3
                      try clear c4
                      try clear p6
                      try clear c7
                      try clear c7b0
                      try clear c7b1
                      try clear c8
                      try clear c9
                      try clear c10
                      try clear c18
                      try clear c21
                      try clear c21b0
                      try clear c21b1
                      try clear c22
                      try clear c24
                      try clear c24b0
                      try clear c24b1
                      try clear c26
                      try clear c26b0
                      try clear c27
                      try clear c27b0
                      try clear p28
                      try clear q28
                      try clear hx28
                      try clear c29
                      try clear c29b0
                      try clear c29b1
                      try clear c30
                      try clear c30b0
                      try clear c30b1
                      try clear c31
                      try clear c31b0
                      try clear c32
                      try clear c32b0
                      try clear c32b1
                      try clear c33
                      try clear c35
                      try clear hcz14_0
                      try clear hcz14_1
                      try clear hcz14_2
                      try clear hcz14_3
                      try clear hcz14_4
                      try clear hcz14_5
                      try clear hcz19_0
                      try clear hcz19_1
                      try clear hcz19_2
                      try clear hcz19_3
                      try clear hcz19_4
                      try clear hcz19_5
                      try clear hcz34_0
                      try clear hcz34_1
                      try clear hcz34_2
                      try clear hcz34_3
                      try clear hcz34_4
                      try clear hcz34_5
                      try clear hcz36_0
                      try clear hcz36_1
                      try clear hcz36_2
                      try clear hcz36_3
                      try clear hcz36_4
                      try clear hcz36_5
                      try clear hfz14_0
                      try clear hfz14_1
                      try clear hfz14_2
                      try clear hfz14_3
                      try clear hfz14_4
                      try clear hfz14_5
                      try clear hfz19_0
                      try clear hfz19_1
                      try clear hfz19_2
                      try clear hfz19_3
                      try clear hfz19_4
                      try clear hfz19_5
                      try clear hfz34_0
                      try clear hfz34_1
                      try clear hfz34_2
                      try clear hfz34_3
                      try clear hfz34_4
                      try clear hfz34_5
                      try clear hfz36_0
                      try clear hfz36_1
                      try clear hfz36_2
                      try clear hfz36_3
                      try clear hfz36_4
                      try clear hfz36_5
                      try clear p2
                      try clear p28
                      try clear p6
                      try clear q2
                      try clear q28
                      obtain ⟨x1_4, rfl, HA, HK4, HO_185005, HO_195005, BK184, BK194, HB⟩ := hrel
                      cases gk with
                      | zero => exact absurd HA.out (by simp [pannierlaw20_AskOne.l1])
                      | succ k4 =>
                        have H := HA.out
                        clear HA
                        simp only [pannierlaw20_AskOne.l1] at H
                        by_cases c37 : (x1_4.size : Int) > 0
                        · rw [if_pos c37] at H
                          have c37b0 : decide (0 < (x1_4.size : Int)) = true := decide_eq_true c37
                          have c37b1 : decide (0 < x1_4.size) = true := decide_eq_true (by omega)
                          clear c37
                          obtain ⟨ji38, hji38⟩ : ∃ j_ : Int, (wrap64 ((x1_4.size : Int) - 1)) = j_ := ⟨_, rfl⟩
                          replace H : (if 0 ≤ (ji38) then (if (ji38) < (x1_4.size : Int) then (if (bt x1_4 (ji38)) = 32 then (if t189.toList = ([] : List UInt8) then (if (ji38) ≤ (x1_4.size : Int) then (pannierlaw20_AskOne.l1 k4 x0_22 (x1_4.extract 0 ((ji38) : Int).toNat) t175 t176 t177 t178 t179 t180 t185 t186 t187 t188 t189 t190) else (none)) else (if t175 = t185 then (if t176 = t186 then (if t177 = t187 then (if t178 = t188 then (if t179.toList = t189.toList then (some (((strOfNums t180).toList == (strOfNums t190).toList) == (x0_22.toList == x1_4.toList))) else (some (false == (x0_22.toList == x1_4.toList)))) else (some (false == (x0_22.toList == x1_4.toList)))) else (some (false == (x0_22.toList == x1_4.toList)))) else (some (false == (x0_22.toList == x1_4.toList)))) else (some (false == (x0_22.toList == x1_4.toList))))) else (if t175 = t185 then (if t176 = t186 then (if t177 = t187 then (if t178 = t188 then (if t179.toList = t189.toList then (some (((strOfNums t180).toList == (strOfNums t190).toList) == (x0_22.toList == x1_4.toList))) else (some (false == (x0_22.toList == x1_4.toList)))) else (some (false == (x0_22.toList == x1_4.toList)))) else (some (false == (x0_22.toList == x1_4.toList)))) else (some (false == (x0_22.toList == x1_4.toList)))) else (some (false == (x0_22.toList == x1_4.toList))))) else (none)) else (none)) = some r := by first | (rw [hji38] at H; exact H) | (simp only [hji38] at H ⊢; exact H)
                          have hji38w : (IntKind.i64.wrap ((x1_4.size : Int) - 1)) = ji38 := (i64_w _).trans hji38
                          by_cases c39 : 0 ≤ (ji38)
                          · rw [if_pos c39] at H
                            have c39b0 : decide (0 ≤ (ji38)) = true := decide_eq_true c39
                            clear c39
                            by_cases c40 : (ji38) < (x1_4.size : Int)
                            · rw [if_pos c40] at H
                              have c40b0 : decide ((ji38) < (x1_4.size : Int)) = true := decide_eq_true c40
                              clear c40
                              by_cases c42 : (bt x1_4 (ji38)) = 32
                              · rw [if_pos c42] at H
                                have c42b0 : ((bt x1_4 (ji38)) == 32) = true := beq_iff_eq.mpr c42
                                have c42b1 : ((bt x1_4 (ji38)) != 32) = false := bne_eq_false_iff_eq.mpr c42
                                clear c42
                                by_cases c43 : t189.toList = ([] : List UInt8)
                                · rw [if_pos c43] at H
                                  have c43b0 : (t189.toList == ([] : List UInt8)) = true := beq_iff_eq.mpr c43
                                  have c43b1 : (t189.toList != ([] : List UInt8)) = false := bne_eq_false_iff_eq.mpr c43
                                  clear c43
                                  have c44b0 := eq_true (of_decide_eq_true (by first | (with_reducible assumption) | assumption) : 0 ≤ (ji38))
                                  by_cases c45 : (ji38) ≤ (x1_4.size : Int)
                                  · rw [if_pos c45] at H
                                    have c45b0 := eq_true c45
                                    have c45b1 : decide ((ji38) ≤ (x1_4.size : Int)) = true := decide_eq_true c45
                                    clear c45
                                    have H' := Aside0.mk H
                                    clear H
                                    have p41 : 0 ≤ ((ji38) : Int) := of_decide_eq_true (by first | (with_reducible assumption) | assumption)
                                    have q41 : (ji38) < (x1_4.size : Int) := of_decide_eq_true (by first | (with_reducible assumption) | assumption)
                                    have hx41 := bt_at x1_4 (ji38)
                                    replace p41 := eq_true p41
                                    replace q41 := eq_true q41
                                    have hnb46 := NB194_184.out
                                    have hnc46 := NB184_194.out
                                    have hcz47_0 : wr.cell? ⟨gb194, 0, none⟩ = some (.int .i64 t185) := (blk_cell BK194.out 0).trans rfl
                                    have hcz47_1 : wr.cell? ⟨gb194, 1, none⟩ = some (.int .i64 t186) := (blk_cell BK194.out 1).trans rfl
                                    have hcz47_2 : wr.cell? ⟨gb194, 2, none⟩ = some (.int .i64 t187) := (blk_cell BK194.out 2).trans rfl
                                    have hcz47_3 : wr.cell? ⟨gb194, 3, none⟩ = some (.int .i64 t188) := (blk_cell BK194.out 3).trans rfl
                                    have hcz47_4 : wr.cell? ⟨gb194, 4, none⟩ = some (.string t189) := (blk_cell BK194.out 4).trans rfl
                                    have hcz47_5 : wr.cell? ⟨gb194, 5, none⟩ = some (.slice Ao20 t190.length co20) := (blk_cell BK194.out 5).trans rfl
                                    have hfz47_0 := blk_frozen BK194.out 0
                                    have hfz47_1 := blk_frozen BK194.out 1
                                    have hfz47_2 := blk_frozen BK194.out 2
                                    have hfz47_3 := blk_frozen BK194.out 3
                                    have hfz47_4 := blk_frozen BK194.out 4
                                    have hfz47_5 := blk_frozen BK194.out 5
                                    go_wp2
                                    go_roundg k4
                                    case measure => have := HJ4.out; have := HJ10.out; have := HJ22.out; have := HK4.out; omega
                                    case rel => exact ⟨(x1_4.extract 0 ((ji38) : Int).toNat), (by first | rfl | (simp; done) | (simp only [← hji38] <;> (first | rfl | simp)) | (simp [*]; done)), H', ⟨by have := HJ4.out; have := HJ10.out; have := HJ22.out; have := HK4.out; omega⟩, ⟨by (with_reducible repeat (first | apply Kd.R_alloc | apply Kd.R_drewN | apply Kd.R_drew)); exact HO_185005.out⟩, ⟨by (with_reducible repeat (first | apply Kd.R_alloc | apply Kd.R_drewN | apply Kd.R_drew)); exact HO_195005.out⟩, ⟨by (with_reducible repeat (first | refine blk_drewN ?_ _ | refine blk_drew ?_ | refine blk_alloc ?_ _)); exact BK184.out⟩, ⟨by (with_reducible repeat (first | refine blk_drewN ?_ _ | refine blk_drew ?_ | refine blk_alloc ?_ _)); exact BK194.out⟩, ⟨by repeat (first | (with_reducible first | exact HB.out | apply below_alloc | apply pw_below_drewN | apply below_drew1 | refine below_set ?_ GE184.out | refine below_set ?_ GE194.out) | exact HB.out)⟩⟩
                                  · rw [if_neg c45] at H
                                    exact absurd H (by simp)
                                · rw [if_neg c43] at H
                                  have c43b0 : (t189.toList == ([] : List UInt8)) = false := beq_eq_false_iff_ne.mpr c43
                                  have c43b1 : (t189.toList != ([] : List UInt8)) = true := bne_iff_ne.mpr c43
                                  by_cases c48 : t175 = t185
                                  · rw [if_pos c48] at H
                                    have c48b0 : (t175 == t185) = true := beq_iff_eq.mpr c48
                                    have c48b1 : (t175 != t185) = false := bne_eq_false_iff_eq.mpr c48
                                    clear c48
                                    by_cases c49 : t176 = t186
                                    · rw [if_pos c49] at H
                                      have c49b0 : (t176 == t186) = true := beq_iff_eq.mpr c49
                                      have c49b1 : (t176 != t186) = false := bne_eq_false_iff_eq.mpr c49
                                      clear c49
                                      by_cases c50 : t177 = t187
                                      · rw [if_pos c50] at H
                                        have c50b0 : (t177 == t187) = true := beq_iff_eq.mpr c50
                                        have c50b1 : (t177 != t187) = false := bne_eq_false_iff_eq.mpr c50
                                        clear c50
                                        by_cases c51 : t178 = t188
                                        · rw [if_pos c51] at H
                                          have c51b0 : (t178 == t188) = true := beq_iff_eq.mpr c51
                                          have c51b1 : (t178 != t188) = false := bne_eq_false_iff_eq.mpr c51
                                          clear c51
                                          by_cases c52 : t179.toList = t189.toList
                                          · rw [if_pos c52] at H
                                            have c52b0 : (t179.toList == t189.toList) = true := beq_iff_eq.mpr c52
                                            have c52b1 : (t179.toList != t189.toList) = false := bne_eq_false_iff_eq.mpr c52
                                            clear c52
                                            obtain rfl := Option.some.inj H
                                            have p41 : 0 ≤ ((ji38) : Int) := of_decide_eq_true (by first | (with_reducible assumption) | assumption)
                                            have q41 : (ji38) < (x1_4.size : Int) := of_decide_eq_true (by first | (with_reducible assumption) | assumption)
                                            have hx41 := bt_at x1_4 (ji38)
                                            replace p41 := eq_true p41
                                            replace q41 := eq_true q41
                                            have hnb53 := NB194_184.out
                                            have hnc53 := NB184_194.out
                                            have hcz54_0 : wr.cell? ⟨gb194, 0, none⟩ = some (.int .i64 t185) := (blk_cell BK194.out 0).trans rfl
                                            have hcz54_1 : wr.cell? ⟨gb194, 1, none⟩ = some (.int .i64 t186) := (blk_cell BK194.out 1).trans rfl
                                            have hcz54_2 : wr.cell? ⟨gb194, 2, none⟩ = some (.int .i64 t187) := (blk_cell BK194.out 2).trans rfl
                                            have hcz54_3 : wr.cell? ⟨gb194, 3, none⟩ = some (.int .i64 t188) := (blk_cell BK194.out 3).trans rfl
                                            have hcz54_4 : wr.cell? ⟨gb194, 4, none⟩ = some (.string t189) := (blk_cell BK194.out 4).trans rfl
                                            have hcz54_5 : wr.cell? ⟨gb194, 5, none⟩ = some (.slice Ao20 t190.length co20) := (blk_cell BK194.out 5).trans rfl
                                            have hfz54_0 := blk_frozen BK194.out 0
                                            have hfz54_1 := blk_frozen BK194.out 1
                                            have hfz54_2 := blk_frozen BK194.out 2
                                            have hfz54_3 := blk_frozen BK194.out 3
                                            have hfz54_4 := blk_frozen BK194.out 4
                                            have hfz54_5 := blk_frozen BK194.out 5
                                            have hcz55_0 : wr.cell? ⟨gb184, 0, none⟩ = some (.int .i64 t175) := (blk_cell BK184.out 0).trans rfl
                                            have hcz55_1 : wr.cell? ⟨gb184, 1, none⟩ = some (.int .i64 t176) := (blk_cell BK184.out 1).trans rfl
                                            have hcz55_2 : wr.cell? ⟨gb184, 2, none⟩ = some (.int .i64 t177) := (blk_cell BK184.out 2).trans rfl
                                            have hcz55_3 : wr.cell? ⟨gb184, 3, none⟩ = some (.int .i64 t178) := (blk_cell BK184.out 3).trans rfl
                                            have hcz55_4 : wr.cell? ⟨gb184, 4, none⟩ = some (.string t179) := (blk_cell BK184.out 4).trans rfl
                                            have hcz55_5 : wr.cell? ⟨gb184, 5, none⟩ = some (.slice Ao15 t180.length co15) := (blk_cell BK184.out 5).trans rfl
                                            have hfz55_0 := blk_frozen BK184.out 0
                                            have hfz55_1 := blk_frozen BK184.out 1
                                            have hfz55_2 := blk_frozen BK184.out 2
                                            have hfz55_3 := blk_frozen BK184.out 3
                                            have hfz55_4 := blk_frozen BK184.out 4
                                            have hfz55_5 := blk_frozen BK184.out 5
                                            have hcv56 := own_string (P := Tryd.prog) Tryd.underlying23 Tryd.underlying5 Tryd.underlying9 (Kd.own_of_R HO_185005.out)
                                            have hcv57 := r_string_d (P := Tryd.prog) Tryd.underlying23 Tryd.underlying5 Tryd.underlying9 HO_185005.out
                                            (try (have hcv58 := fun u0_ u1_ u2_ u3_ u4_ u5_ => own_string (P := Tryd.prog) Tryd.underlying23 Tryd.underlying5 Tryd.underlying9 (ownsRow_setCell_other (a := ⟨gb184, 5, none⟩) (ownsRow_setCell_other (a := ⟨gb184, 4, none⟩) (ownsRow_setCell_other (a := ⟨gb184, 3, none⟩) (ownsRow_setCell_other (a := ⟨gb184, 2, none⟩) (ownsRow_setCell_other (a := ⟨gb184, 1, none⟩) (ownsRow_setCell_other (a := ⟨gb184, 0, none⟩) (Kd.own_of_R HO_185005.out) (Ne.symm (Kd.R_ne HO_185005.out BK184.out (by decide))) u0_) (Ne.symm (Kd.R_ne HO_185005.out BK184.out (by decide))) u1_) (Ne.symm (Kd.R_ne HO_185005.out BK184.out (by decide))) u2_) (Ne.symm (Kd.R_ne HO_185005.out BK184.out (by decide))) u3_) (Ne.symm (Kd.R_ne HO_185005.out BK184.out (by decide))) u4_) (Ne.symm (Kd.R_ne HO_185005.out BK184.out (by decide))) u5_)))
                                            (try (have hcv59 := fun u0_ u1_ u2_ u3_ u4_ u5_ => own_string (P := Tryd.prog) Tryd.underlying23 Tryd.underlying5 Tryd.underlying9 (ownsRow_setCell_other (a := ⟨gb194, 5, none⟩) (ownsRow_setCell_other (a := ⟨gb194, 4, none⟩) (ownsRow_setCell_other (a := ⟨gb194, 3, none⟩) (ownsRow_setCell_other (a := ⟨gb194, 2, none⟩) (ownsRow_setCell_other (a := ⟨gb194, 1, none⟩) (ownsRow_setCell_other (a := ⟨gb194, 0, none⟩) (Kd.own_of_R HO_185005.out) (Ne.symm (Kd.R_ne HO_185005.out BK194.out (by decide))) u0_) (Ne.symm (Kd.R_ne HO_185005.out BK194.out (by decide))) u1_) (Ne.symm (Kd.R_ne HO_185005.out BK194.out (by decide))) u2_) (Ne.symm (Kd.R_ne HO_185005.out BK194.out (by decide))) u3_) (Ne.symm (Kd.R_ne HO_185005.out BK194.out (by decide))) u4_) (Ne.symm (Kd.R_ne HO_185005.out BK194.out (by decide))) u5_)))
                                            have hcv60 := own_string (P := Tryd.prog) Tryd.underlying23 Tryd.underlying5 Tryd.underlying9 (Kd.own_of_R HO_195005.out)
                                            have hcv61 := r_string_d (P := Tryd.prog) Tryd.underlying23 Tryd.underlying5 Tryd.underlying9 HO_195005.out
                                            (try (have hcv62 := fun u0_ u1_ u2_ u3_ u4_ u5_ => own_string (P := Tryd.prog) Tryd.underlying23 Tryd.underlying5 Tryd.underlying9 (ownsRow_setCell_other (a := ⟨gb184, 5, none⟩) (ownsRow_setCell_other (a := ⟨gb184, 4, none⟩) (ownsRow_setCell_other (a := ⟨gb184, 3, none⟩) (ownsRow_setCell_other (a := ⟨gb184, 2, none⟩) (ownsRow_setCell_other (a := ⟨gb184, 1, none⟩) (ownsRow_setCell_other (a := ⟨gb184, 0, none⟩) (Kd.own_of_R HO_195005.out) (Ne.symm (Kd.R_ne HO_195005.out BK184.out (by decide))) u0_) (Ne.symm (Kd.R_ne HO_195005.out BK184.out (by decide))) u1_) (Ne.symm (Kd.R_ne HO_195005.out BK184.out (by decide))) u2_) (Ne.symm (Kd.R_ne HO_195005.out BK184.out (by decide))) u3_) (Ne.symm (Kd.R_ne HO_195005.out BK184.out (by decide))) u4_) (Ne.symm (Kd.R_ne HO_195005.out BK184.out (by decide))) u5_)))
                                            (try (have hcv63 := fun u0_ u1_ u2_ u3_ u4_ u5_ => own_string (P := Tryd.prog) Tryd.underlying23 Tryd.underlying5 Tryd.underlying9 (ownsRow_setCell_other (a := ⟨gb194, 5, none⟩) (ownsRow_setCell_other (a := ⟨gb194, 4, none⟩) (ownsRow_setCell_other (a := ⟨gb194, 3, none⟩) (ownsRow_setCell_other (a := ⟨gb194, 2, none⟩) (ownsRow_setCell_other (a := ⟨gb194, 1, none⟩) (ownsRow_setCell_other (a := ⟨gb194, 0, none⟩) (Kd.own_of_R HO_195005.out) (Ne.symm (Kd.R_ne HO_195005.out BK194.out (by decide))) u0_) (Ne.symm (Kd.R_ne HO_195005.out BK194.out (by decide))) u1_) (Ne.symm (Kd.R_ne HO_195005.out BK194.out (by decide))) u2_) (Ne.symm (Kd.R_ne HO_195005.out BK194.out (by decide))) u3_) (Ne.symm (Kd.R_ne HO_195005.out BK194.out (by decide))) u4_) (Ne.symm (Kd.R_ne HO_195005.out BK194.out (by decide))) u5_)))
                                            go_wp2
                                            go_ret
                                            exact ⟨by first | rfl | (simp [errW_none, errW_some] <;> rfl) | (simp only [← hji38]; first | rfl | (simp [errW_none, errW_some] <;> rfl)) | (simp [*, errW_none, errW_some] <;> rfl), by repeat (first | (with_reducible first | exact HB.out | apply below_alloc | apply pw_below_drewN | apply below_drew1 | refine below_set ?_ GE184.out | refine below_set ?_ GE194.out) | exact HB.out)⟩
                                          · rw [if_neg c52] at H
                                            have c52b0 : (t179.toList == t189.toList) = false := beq_eq_false_iff_ne.mpr c52
                                            have c52b1 : (t179.toList != t189.toList) = true := bne_iff_ne.mpr c52
                                            obtain rfl := Option.some.inj H
                                            have p41 : 0 ≤ ((ji38) : Int) := of_decide_eq_true (by first | (with_reducible assumption) | assumption)
                                            have q41 : (ji38) < (x1_4.size : Int) := of_decide_eq_true (by first | (with_reducible assumption) | assumption)
                                            have hx41 := bt_at x1_4 (ji38)
                                            replace p41 := eq_true p41
                                            replace q41 := eq_true q41
                                            have hnb64 := NB194_184.out
                                            have hnc64 := NB184_194.out
                                            have hcz65_0 : wr.cell? ⟨gb194, 0, none⟩ = some (.int .i64 t185) := (blk_cell BK194.out 0).trans rfl
                                            have hcz65_1 : wr.cell? ⟨gb194, 1, none⟩ = some (.int .i64 t186) := (blk_cell BK194.out 1).trans rfl
                                            have hcz65_2 : wr.cell? ⟨gb194, 2, none⟩ = some (.int .i64 t187) := (blk_cell BK194.out 2).trans rfl
                                            have hcz65_3 : wr.cell? ⟨gb194, 3, none⟩ = some (.int .i64 t188) := (blk_cell BK194.out 3).trans rfl
                                            have hcz65_4 : wr.cell? ⟨gb194, 4, none⟩ = some (.string t189) := (blk_cell BK194.out 4).trans rfl
                                            have hcz65_5 : wr.cell? ⟨gb194, 5, none⟩ = some (.slice Ao20 t190.length co20) := (blk_cell BK194.out 5).trans rfl
                                            have hfz65_0 := blk_frozen BK194.out 0
                                            have hfz65_1 := blk_frozen BK194.out 1
                                            have hfz65_2 := blk_frozen BK194.out 2
                                            have hfz65_3 := blk_frozen BK194.out 3
                                            have hfz65_4 := blk_frozen BK194.out 4
                                            have hfz65_5 := blk_frozen BK194.out 5
                                            have hcz66_0 : wr.cell? ⟨gb184, 0, none⟩ = some (.int .i64 t175) := (blk_cell BK184.out 0).trans rfl
                                            have hcz66_1 : wr.cell? ⟨gb184, 1, none⟩ = some (.int .i64 t176) := (blk_cell BK184.out 1).trans rfl
                                            have hcz66_2 : wr.cell? ⟨gb184, 2, none⟩ = some (.int .i64 t177) := (blk_cell BK184.out 2).trans rfl
                                            have hcz66_3 : wr.cell? ⟨gb184, 3, none⟩ = some (.int .i64 t178) := (blk_cell BK184.out 3).trans rfl
                                            have hcz66_4 : wr.cell? ⟨gb184, 4, none⟩ = some (.string t179) := (blk_cell BK184.out 4).trans rfl
                                            have hcz66_5 : wr.cell? ⟨gb184, 5, none⟩ = some (.slice Ao15 t180.length co15) := (blk_cell BK184.out 5).trans rfl
                                            have hfz66_0 := blk_frozen BK184.out 0
                                            have hfz66_1 := blk_frozen BK184.out 1
                                            have hfz66_2 := blk_frozen BK184.out 2
                                            have hfz66_3 := blk_frozen BK184.out 3
                                            have hfz66_4 := blk_frozen BK184.out 4
                                            have hfz66_5 := blk_frozen BK184.out 5
                                            go_wp2
                                            go_ret
                                            exact ⟨by first | rfl | (simp [errW_none, errW_some] <;> rfl) | (simp only [← hji38]; first | rfl | (simp [errW_none, errW_some] <;> rfl)) | (simp [*, errW_none, errW_some] <;> rfl), by repeat (first | (with_reducible first | exact HB.out | apply below_alloc | apply pw_below_drewN | apply below_drew1 | refine below_set ?_ GE184.out | refine below_set ?_ GE194.out) | exact HB.out)⟩
                                        · rw [if_neg c51] at H
                                          have c51b0 : (t178 == t188) = false := beq_eq_false_iff_ne.mpr c51
                                          have c51b1 : (t178 != t188) = true := bne_iff_ne.mpr c51
                                          obtain rfl := Option.some.inj H
                                          have p41 : 0 ≤ ((ji38) : Int) := of_decide_eq_true (by first | (with_reducible assumption) | assumption)
                                          have q41 : (ji38) < (x1_4.size : Int) := of_decide_eq_true (by first | (with_reducible assumption) | assumption)
                                          have hx41 := bt_at x1_4 (ji38)
                                          replace p41 := eq_true p41
                                          replace q41 := eq_true q41
                                          have hnb67 := NB194_184.out
                                          have hnc67 := NB184_194.out
                                          have hcz68_0 : wr.cell? ⟨gb194, 0, none⟩ = some (.int .i64 t185) := (blk_cell BK194.out 0).trans rfl
                                          have hcz68_1 : wr.cell? ⟨gb194, 1, none⟩ = some (.int .i64 t186) := (blk_cell BK194.out 1).trans rfl
                                          have hcz68_2 : wr.cell? ⟨gb194, 2, none⟩ = some (.int .i64 t187) := (blk_cell BK194.out 2).trans rfl
                                          have hcz68_3 : wr.cell? ⟨gb194, 3, none⟩ = some (.int .i64 t188) := (blk_cell BK194.out 3).trans rfl
                                          have hcz68_4 : wr.cell? ⟨gb194, 4, none⟩ = some (.string t189) := (blk_cell BK194.out 4).trans rfl
                                          have hcz68_5 : wr.cell? ⟨gb194, 5, none⟩ = some (.slice Ao20 t190.length co20) := (blk_cell BK194.out 5).trans rfl
                                          have hfz68_0 := blk_frozen BK194.out 0
                                          have hfz68_1 := blk_frozen BK194.out 1
                                          have hfz68_2 := blk_frozen BK194.out 2
                                          have hfz68_3 := blk_frozen BK194.out 3
                                          have hfz68_4 := blk_frozen BK194.out 4
                                          have hfz68_5 := blk_frozen BK194.out 5
                                          have hcz69_0 : wr.cell? ⟨gb184, 0, none⟩ = some (.int .i64 t175) := (blk_cell BK184.out 0).trans rfl
                                          have hcz69_1 : wr.cell? ⟨gb184, 1, none⟩ = some (.int .i64 t176) := (blk_cell BK184.out 1).trans rfl
                                          have hcz69_2 : wr.cell? ⟨gb184, 2, none⟩ = some (.int .i64 t177) := (blk_cell BK184.out 2).trans rfl
                                          have hcz69_3 : wr.cell? ⟨gb184, 3, none⟩ = some (.int .i64 t178) := (blk_cell BK184.out 3).trans rfl
                                          have hcz69_4 : wr.cell? ⟨gb184, 4, none⟩ = some (.string t179) := (blk_cell BK184.out 4).trans rfl
                                          have hcz69_5 : wr.cell? ⟨gb184, 5, none⟩ = some (.slice Ao15 t180.length co15) := (blk_cell BK184.out 5).trans rfl
                                          have hfz69_0 := blk_frozen BK184.out 0
                                          have hfz69_1 := blk_frozen BK184.out 1
                                          have hfz69_2 := blk_frozen BK184.out 2
                                          have hfz69_3 := blk_frozen BK184.out 3
                                          have hfz69_4 := blk_frozen BK184.out 4
                                          have hfz69_5 := blk_frozen BK184.out 5
                                          go_wp2
                                          go_ret
                                          exact ⟨by first | rfl | (simp [errW_none, errW_some] <;> rfl) | (simp only [← hji38]; first | rfl | (simp [errW_none, errW_some] <;> rfl)) | (simp [*, errW_none, errW_some] <;> rfl), by repeat (first | (with_reducible first | exact HB.out | apply below_alloc | apply pw_below_drewN | apply below_drew1 | refine below_set ?_ GE184.out | refine below_set ?_ GE194.out) | exact HB.out)⟩
                                      · rw [if_neg c50] at H
                                        have c50b0 : (t177 == t187) = false := beq_eq_false_iff_ne.mpr c50
                                        have c50b1 : (t177 != t187) = true := bne_iff_ne.mpr c50
                                        obtain rfl := Option.some.inj H
                                        have p41 : 0 ≤ ((ji38) : Int) := of_decide_eq_true (by first | (with_reducible assumption) | assumption)
                                        have q41 : (ji38) < (x1_4.size : Int) := of_decide_eq_true (by first | (with_reducible assumption) | assumption)
                                        have hx41 := bt_at x1_4 (ji38)
                                        replace p41 := eq_true p41
                                        replace q41 := eq_true q41
                                        have hnb70 := NB194_184.out
                                        have hnc70 := NB184_194.out
                                        have hcz71_0 : wr.cell? ⟨gb194, 0, none⟩ = some (.int .i64 t185) := (blk_cell BK194.out 0).trans rfl
                                        have hcz71_1 : wr.cell? ⟨gb194, 1, none⟩ = some (.int .i64 t186) := (blk_cell BK194.out 1).trans rfl
                                        have hcz71_2 : wr.cell? ⟨gb194, 2, none⟩ = some (.int .i64 t187) := (blk_cell BK194.out 2).trans rfl
                                        have hcz71_3 : wr.cell? ⟨gb194, 3, none⟩ = some (.int .i64 t188) := (blk_cell BK194.out 3).trans rfl
                                        have hcz71_4 : wr.cell? ⟨gb194, 4, none⟩ = some (.string t189) := (blk_cell BK194.out 4).trans rfl
                                        have hcz71_5 : wr.cell? ⟨gb194, 5, none⟩ = some (.slice Ao20 t190.length co20) := (blk_cell BK194.out 5).trans rfl
                                        have hfz71_0 := blk_frozen BK194.out 0
                                        have hfz71_1 := blk_frozen BK194.out 1
                                        have hfz71_2 := blk_frozen BK194.out 2
                                        have hfz71_3 := blk_frozen BK194.out 3
                                        have hfz71_4 := blk_frozen BK194.out 4
                                        have hfz71_5 := blk_frozen BK194.out 5
                                        have hcz72_0 : wr.cell? ⟨gb184, 0, none⟩ = some (.int .i64 t175) := (blk_cell BK184.out 0).trans rfl
                                        have hcz72_1 : wr.cell? ⟨gb184, 1, none⟩ = some (.int .i64 t176) := (blk_cell BK184.out 1).trans rfl
                                        have hcz72_2 : wr.cell? ⟨gb184, 2, none⟩ = some (.int .i64 t177) := (blk_cell BK184.out 2).trans rfl
                                        have hcz72_3 : wr.cell? ⟨gb184, 3, none⟩ = some (.int .i64 t178) := (blk_cell BK184.out 3).trans rfl
                                        have hcz72_4 : wr.cell? ⟨gb184, 4, none⟩ = some (.string t179) := (blk_cell BK184.out 4).trans rfl
                                        have hcz72_5 : wr.cell? ⟨gb184, 5, none⟩ = some (.slice Ao15 t180.length co15) := (blk_cell BK184.out 5).trans rfl
                                        have hfz72_0 := blk_frozen BK184.out 0
                                        have hfz72_1 := blk_frozen BK184.out 1
                                        have hfz72_2 := blk_frozen BK184.out 2
                                        have hfz72_3 := blk_frozen BK184.out 3
                                        have hfz72_4 := blk_frozen BK184.out 4
                                        have hfz72_5 := blk_frozen BK184.out 5
                                        go_wp2
                                        go_ret
                                        exact ⟨by first | rfl | (simp [errW_none, errW_some] <;> rfl) | (simp only [← hji38]; first | rfl | (simp [errW_none, errW_some] <;> rfl)) | (simp [*, errW_none, errW_some] <;> rfl), by repeat (first | (with_reducible first | exact HB.out | apply below_alloc | apply pw_below_drewN | apply below_drew1 | refine below_set ?_ GE184.out | refine below_set ?_ GE194.out) | exact HB.out)⟩
                                    · rw [if_neg c49] at H
                                      have c49b0 : (t176 == t186) = false := beq_eq_false_iff_ne.mpr c49
                                      have c49b1 : (t176 != t186) = true := bne_iff_ne.mpr c49
                                      obtain rfl := Option.some.inj H
                                      have p41 : 0 ≤ ((ji38) : Int) := of_decide_eq_true (by first | (with_reducible assumption) | assumption)
                                      have q41 : (ji38) < (x1_4.size : Int) := of_decide_eq_true (by first | (with_reducible assumption) | assumption)
                                      have hx41 := bt_at x1_4 (ji38)
                                      replace p41 := eq_true p41
                                      replace q41 := eq_true q41
                                      have hnb73 := NB194_184.out
                                      have hnc73 := NB184_194.out
                                      have hcz74_0 : wr.cell? ⟨gb194, 0, none⟩ = some (.int .i64 t185) := (blk_cell BK194.out 0).trans rfl
                                      have hcz74_1 : wr.cell? ⟨gb194, 1, none⟩ = some (.int .i64 t186) := (blk_cell BK194.out 1).trans rfl
                                      have hcz74_2 : wr.cell? ⟨gb194, 2, none⟩ = some (.int .i64 t187) := (blk_cell BK194.out 2).trans rfl
                                      have hcz74_3 : wr.cell? ⟨gb194, 3, none⟩ = some (.int .i64 t188) := (blk_cell BK194.out 3).trans rfl
                                      have hcz74_4 : wr.cell? ⟨gb194, 4, none⟩ = some (.string t189) := (blk_cell BK194.out 4).trans rfl
                                      have hcz74_5 : wr.cell? ⟨gb194, 5, none⟩ = some (.slice Ao20 t190.length co20) := (blk_cell BK194.out 5).trans rfl
                                      have hfz74_0 := blk_frozen BK194.out 0
                                      have hfz74_1 := blk_frozen BK194.out 1
                                      have hfz74_2 := blk_frozen BK194.out 2
                                      have hfz74_3 := blk_frozen BK194.out 3
                                      have hfz74_4 := blk_frozen BK194.out 4
                                      have hfz74_5 := blk_frozen BK194.out 5
                                      have hcz75_0 : wr.cell? ⟨gb184, 0, none⟩ = some (.int .i64 t175) := (blk_cell BK184.out 0).trans rfl
                                      have hcz75_1 : wr.cell? ⟨gb184, 1, none⟩ = some (.int .i64 t176) := (blk_cell BK184.out 1).trans rfl
                                      have hcz75_2 : wr.cell? ⟨gb184, 2, none⟩ = some (.int .i64 t177) := (blk_cell BK184.out 2).trans rfl
                                      have hcz75_3 : wr.cell? ⟨gb184, 3, none⟩ = some (.int .i64 t178) := (blk_cell BK184.out 3).trans rfl
                                      have hcz75_4 : wr.cell? ⟨gb184, 4, none⟩ = some (.string t179) := (blk_cell BK184.out 4).trans rfl
                                      have hcz75_5 : wr.cell? ⟨gb184, 5, none⟩ = some (.slice Ao15 t180.length co15) := (blk_cell BK184.out 5).trans rfl
                                      have hfz75_0 := blk_frozen BK184.out 0
                                      have hfz75_1 := blk_frozen BK184.out 1
                                      have hfz75_2 := blk_frozen BK184.out 2
                                      have hfz75_3 := blk_frozen BK184.out 3
                                      have hfz75_4 := blk_frozen BK184.out 4
                                      have hfz75_5 := blk_frozen BK184.out 5
                                      go_wp2
                                      go_ret
                                      exact ⟨by first | rfl | (simp [errW_none, errW_some] <;> rfl) | (simp only [← hji38]; first | rfl | (simp [errW_none, errW_some] <;> rfl)) | (simp [*, errW_none, errW_some] <;> rfl), by repeat (first | (with_reducible first | exact HB.out | apply below_alloc | apply pw_below_drewN | apply below_drew1 | refine below_set ?_ GE184.out | refine below_set ?_ GE194.out) | exact HB.out)⟩
                                  · rw [if_neg c48] at H
                                    have c48b0 : (t175 == t185) = false := beq_eq_false_iff_ne.mpr c48
                                    have c48b1 : (t175 != t185) = true := bne_iff_ne.mpr c48
                                    obtain rfl := Option.some.inj H
                                    have p41 : 0 ≤ ((ji38) : Int) := of_decide_eq_true (by first | (with_reducible assumption) | assumption)
                                    have q41 : (ji38) < (x1_4.size : Int) := of_decide_eq_true (by first | (with_reducible assumption) | assumption)
                                    have hx41 := bt_at x1_4 (ji38)
                                    replace p41 := eq_true p41
                                    replace q41 := eq_true q41
                                    have hnb76 := NB194_184.out
                                    have hnc76 := NB184_194.out
                                    have hcz77_0 : wr.cell? ⟨gb194, 0, none⟩ = some (.int .i64 t185) := (blk_cell BK194.out 0).trans rfl
                                    have hcz77_1 : wr.cell? ⟨gb194, 1, none⟩ = some (.int .i64 t186) := (blk_cell BK194.out 1).trans rfl
                                    have hcz77_2 : wr.cell? ⟨gb194, 2, none⟩ = some (.int .i64 t187) := (blk_cell BK194.out 2).trans rfl
                                    have hcz77_3 : wr.cell? ⟨gb194, 3, none⟩ = some (.int .i64 t188) := (blk_cell BK194.out 3).trans rfl
                                    have hcz77_4 : wr.cell? ⟨gb194, 4, none⟩ = some (.string t189) := (blk_cell BK194.out 4).trans rfl
                                    have hcz77_5 : wr.cell? ⟨gb194, 5, none⟩ = some (.slice Ao20 t190.length co20) := (blk_cell BK194.out 5).trans rfl
                                    have hfz77_0 := blk_frozen BK194.out 0
                                    have hfz77_1 := blk_frozen BK194.out 1
                                    have hfz77_2 := blk_frozen BK194.out 2
                                    have hfz77_3 := blk_frozen BK194.out 3
                                    have hfz77_4 := blk_frozen BK194.out 4
                                    have hfz77_5 := blk_frozen BK194.out 5
                                    have hcz78_0 : wr.cell? ⟨gb184, 0, none⟩ = some (.int .i64 t175) := (blk_cell BK184.out 0).trans rfl
                                    have hcz78_1 : wr.cell? ⟨gb184, 1, none⟩ = some (.int .i64 t176) := (blk_cell BK184.out 1).trans rfl
                                    have hcz78_2 : wr.cell? ⟨gb184, 2, none⟩ = some (.int .i64 t177) := (blk_cell BK184.out 2).trans rfl
                                    have hcz78_3 : wr.cell? ⟨gb184, 3, none⟩ = some (.int .i64 t178) := (blk_cell BK184.out 3).trans rfl
                                    have hcz78_4 : wr.cell? ⟨gb184, 4, none⟩ = some (.string t179) := (blk_cell BK184.out 4).trans rfl
                                    have hcz78_5 : wr.cell? ⟨gb184, 5, none⟩ = some (.slice Ao15 t180.length co15) := (blk_cell BK184.out 5).trans rfl
                                    have hfz78_0 := blk_frozen BK184.out 0
                                    have hfz78_1 := blk_frozen BK184.out 1
                                    have hfz78_2 := blk_frozen BK184.out 2
                                    have hfz78_3 := blk_frozen BK184.out 3
                                    have hfz78_4 := blk_frozen BK184.out 4
                                    have hfz78_5 := blk_frozen BK184.out 5
                                    go_wp2
                                    go_ret
                                    exact ⟨by first | rfl | (simp [errW_none, errW_some] <;> rfl) | (simp only [← hji38]; first | rfl | (simp [errW_none, errW_some] <;> rfl)) | (simp [*, errW_none, errW_some] <;> rfl), by repeat (first | (with_reducible first | exact HB.out | apply below_alloc | apply pw_below_drewN | apply below_drew1 | refine below_set ?_ GE184.out | refine below_set ?_ GE194.out) | exact HB.out)⟩
                              · rw [if_neg c42] at H
                                have c42b0 : ((bt x1_4 (ji38)) == 32) = false := beq_eq_false_iff_ne.mpr c42
                                have c42b1 : ((bt x1_4 (ji38)) != 32) = true := bne_iff_ne.mpr c42
                                by_cases c79 : t175 = t185
                                · rw [if_pos c79] at H
                                  have c79b0 : (t175 == t185) = true := beq_iff_eq.mpr c79
                                  have c79b1 : (t175 != t185) = false := bne_eq_false_iff_eq.mpr c79
                                  clear c79
                                  by_cases c80 : t176 = t186
                                  · rw [if_pos c80] at H
                                    have c80b0 : (t176 == t186) = true := beq_iff_eq.mpr c80
                                    have c80b1 : (t176 != t186) = false := bne_eq_false_iff_eq.mpr c80
                                    clear c80
                                    by_cases c81 : t177 = t187
                                    · rw [if_pos c81] at H
                                      have c81b0 : (t177 == t187) = true := beq_iff_eq.mpr c81
                                      have c81b1 : (t177 != t187) = false := bne_eq_false_iff_eq.mpr c81
                                      clear c81
                                      by_cases c82 : t178 = t188
                                      · rw [if_pos c82] at H
                                        have c82b0 : (t178 == t188) = true := beq_iff_eq.mpr c82
                                        have c82b1 : (t178 != t188) = false := bne_eq_false_iff_eq.mpr c82
                                        clear c82
                                        by_cases c83 : t179.toList = t189.toList
                                        · rw [if_pos c83] at H
                                          have c83b0 : (t179.toList == t189.toList) = true := beq_iff_eq.mpr c83
                                          have c83b1 : (t179.toList != t189.toList) = false := bne_eq_false_iff_eq.mpr c83
                                          clear c83
                                          obtain rfl := Option.some.inj H
                                          have p41 : 0 ≤ ((ji38) : Int) := of_decide_eq_true (by first | (with_reducible assumption) | assumption)
                                          have q41 : (ji38) < (x1_4.size : Int) := of_decide_eq_true (by first | (with_reducible assumption) | assumption)
                                          have hx41 := bt_at x1_4 (ji38)
                                          replace p41 := eq_true p41
                                          replace q41 := eq_true q41
                                          have hnb84 := NB184_194.out
                                          have hnc84 := NB194_184.out
                                          have hcz85_0 : wr.cell? ⟨gb184, 0, none⟩ = some (.int .i64 t175) := (blk_cell BK184.out 0).trans rfl
                                          have hcz85_1 : wr.cell? ⟨gb184, 1, none⟩ = some (.int .i64 t176) := (blk_cell BK184.out 1).trans rfl
                                          have hcz85_2 : wr.cell? ⟨gb184, 2, none⟩ = some (.int .i64 t177) := (blk_cell BK184.out 2).trans rfl
                                          have hcz85_3 : wr.cell? ⟨gb184, 3, none⟩ = some (.int .i64 t178) := (blk_cell BK184.out 3).trans rfl
                                          have hcz85_4 : wr.cell? ⟨gb184, 4, none⟩ = some (.string t179) := (blk_cell BK184.out 4).trans rfl
                                          have hcz85_5 : wr.cell? ⟨gb184, 5, none⟩ = some (.slice Ao15 t180.length co15) := (blk_cell BK184.out 5).trans rfl
                                          have hfz85_0 := blk_frozen BK184.out 0
                                          have hfz85_1 := blk_frozen BK184.out 1
                                          have hfz85_2 := blk_frozen BK184.out 2
                                          have hfz85_3 := blk_frozen BK184.out 3
                                          have hfz85_4 := blk_frozen BK184.out 4
                                          have hfz85_5 := blk_frozen BK184.out 5
                                          have hcz86_0 : wr.cell? ⟨gb194, 0, none⟩ = some (.int .i64 t185) := (blk_cell BK194.out 0).trans rfl
                                          have hcz86_1 : wr.cell? ⟨gb194, 1, none⟩ = some (.int .i64 t186) := (blk_cell BK194.out 1).trans rfl
                                          have hcz86_2 : wr.cell? ⟨gb194, 2, none⟩ = some (.int .i64 t187) := (blk_cell BK194.out 2).trans rfl
                                          have hcz86_3 : wr.cell? ⟨gb194, 3, none⟩ = some (.int .i64 t188) := (blk_cell BK194.out 3).trans rfl
                                          have hcz86_4 : wr.cell? ⟨gb194, 4, none⟩ = some (.string t189) := (blk_cell BK194.out 4).trans rfl
                                          have hcz86_5 : wr.cell? ⟨gb194, 5, none⟩ = some (.slice Ao20 t190.length co20) := (blk_cell BK194.out 5).trans rfl
                                          have hfz86_0 := blk_frozen BK194.out 0
                                          have hfz86_1 := blk_frozen BK194.out 1
                                          have hfz86_2 := blk_frozen BK194.out 2
                                          have hfz86_3 := blk_frozen BK194.out 3
                                          have hfz86_4 := blk_frozen BK194.out 4
                                          have hfz86_5 := blk_frozen BK194.out 5
                                          have hcv87 := own_string (P := Tryd.prog) Tryd.underlying23 Tryd.underlying5 Tryd.underlying9 (Kd.own_of_R HO_185005.out)
                                          have hcv88 := r_string_d (P := Tryd.prog) Tryd.underlying23 Tryd.underlying5 Tryd.underlying9 HO_185005.out
                                          (try (have hcv89 := fun u0_ u1_ u2_ u3_ u4_ u5_ => own_string (P := Tryd.prog) Tryd.underlying23 Tryd.underlying5 Tryd.underlying9 (ownsRow_setCell_other (a := ⟨gb184, 5, none⟩) (ownsRow_setCell_other (a := ⟨gb184, 4, none⟩) (ownsRow_setCell_other (a := ⟨gb184, 3, none⟩) (ownsRow_setCell_other (a := ⟨gb184, 2, none⟩) (ownsRow_setCell_other (a := ⟨gb184, 1, none⟩) (ownsRow_setCell_other (a := ⟨gb184, 0, none⟩) (Kd.own_of_R HO_185005.out) (Ne.symm (Kd.R_ne HO_185005.out BK184.out (by decide))) u0_) (Ne.symm (Kd.R_ne HO_185005.out BK184.out (by decide))) u1_) (Ne.symm (Kd.R_ne HO_185005.out BK184.out (by decide))) u2_) (Ne.symm (Kd.R_ne HO_185005.out BK184.out (by decide))) u3_) (Ne.symm (Kd.R_ne HO_185005.out BK184.out (by decide))) u4_) (Ne.symm (Kd.R_ne HO_185005.out BK184.out (by decide))) u5_)))
                                          (try (have hcv90 := fun u0_ u1_ u2_ u3_ u4_ u5_ => own_string (P := Tryd.prog) Tryd.underlying23 Tryd.underlying5 Tryd.underlying9 (ownsRow_setCell_other (a := ⟨gb194, 5, none⟩) (ownsRow_setCell_other (a := ⟨gb194, 4, none⟩) (ownsRow_setCell_other (a := ⟨gb194, 3, none⟩) (ownsRow_setCell_other (a := ⟨gb194, 2, none⟩) (ownsRow_setCell_other (a := ⟨gb194, 1, none⟩) (ownsRow_setCell_other (a := ⟨gb194, 0, none⟩) (Kd.own_of_R HO_185005.out) (Ne.symm (Kd.R_ne HO_185005.out BK194.out (by decide))) u0_) (Ne.symm (Kd.R_ne HO_185005.out BK194.out (by decide))) u1_) (Ne.symm (Kd.R_ne HO_185005.out BK194.out (by decide))) u2_) (Ne.symm (Kd.R_ne HO_185005.out BK194.out (by decide))) u3_) (Ne.symm (Kd.R_ne HO_185005.out BK194.out (by decide))) u4_) (Ne.symm (Kd.R_ne HO_185005.out BK194.out (by decide))) u5_)))
                                          have hcv91 := own_string (P := Tryd.prog) Tryd.underlying23 Tryd.underlying5 Tryd.underlying9 (Kd.own_of_R HO_195005.out)
                                          have hcv92 := r_string_d (P := Tryd.prog) Tryd.underlying23 Tryd.underlying5 Tryd.underlying9 HO_195005.out
                                          (try (have hcv93 := fun u0_ u1_ u2_ u3_ u4_ u5_ => own_string (P := Tryd.prog) Tryd.underlying23 Tryd.underlying5 Tryd.underlying9 (ownsRow_setCell_other (a := ⟨gb184, 5, none⟩) (ownsRow_setCell_other (a := ⟨gb184, 4, none⟩) (ownsRow_setCell_other (a := ⟨gb184, 3, none⟩) (ownsRow_setCell_other (a := ⟨gb184, 2, none⟩) (ownsRow_setCell_other (a := ⟨gb184, 1, none⟩) (ownsRow_setCell_other (a := ⟨gb184, 0, none⟩) (Kd.own_of_R HO_195005.out) (Ne.symm (Kd.R_ne HO_195005.out BK184.out (by decide))) u0_) (Ne.symm (Kd.R_ne HO_195005.out BK184.out (by decide))) u1_) (Ne.symm (Kd.R_ne HO_195005.out BK184.out (by decide))) u2_) (Ne.symm (Kd.R_ne HO_195005.out BK184.out (by decide))) u3_) (Ne.symm (Kd.R_ne HO_195005.out BK184.out (by decide))) u4_) (Ne.symm (Kd.R_ne HO_195005.out BK184.out (by decide))) u5_)))
                                          (try (have hcv94 := fun u0_ u1_ u2_ u3_ u4_ u5_ => own_string (P := Tryd.prog) Tryd.underlying23 Tryd.underlying5 Tryd.underlying9 (ownsRow_setCell_other (a := ⟨gb194, 5, none⟩) (ownsRow_setCell_other (a := ⟨gb194, 4, none⟩) (ownsRow_setCell_other (a := ⟨gb194, 3, none⟩) (ownsRow_setCell_other (a := ⟨gb194, 2, none⟩) (ownsRow_setCell_other (a := ⟨gb194, 1, none⟩) (ownsRow_setCell_other (a := ⟨gb194, 0, none⟩) (Kd.own_of_R HO_195005.out) (Ne.symm (Kd.R_ne HO_195005.out BK194.out (by decide))) u0_) (Ne.symm (Kd.R_ne HO_195005.out BK194.out (by decide))) u1_) (Ne.symm (Kd.R_ne HO_195005.out BK194.out (by decide))) u2_) (Ne.symm (Kd.R_ne HO_195005.out BK194.out (by decide))) u3_) (Ne.symm (Kd.R_ne HO_195005.out BK194.out (by decide))) u4_) (Ne.symm (Kd.R_ne HO_195005.out BK194.out (by decide))) u5_)))
                                          go_wp2
                                          go_ret
                                          exact ⟨by first | rfl | (simp [errW_none, errW_some] <;> rfl) | (simp only [← hji38]; first | rfl | (simp [errW_none, errW_some] <;> rfl)) | (simp [*, errW_none, errW_some] <;> rfl), by repeat (first | (with_reducible first | exact HB.out | apply below_alloc | apply pw_below_drewN | apply below_drew1 | refine below_set ?_ GE184.out | refine below_set ?_ GE194.out) | exact HB.out)⟩
                                        · rw [if_neg c83] at H
                                          have c83b0 : (t179.toList == t189.toList) = false := beq_eq_false_iff_ne.mpr c83
                                          have c83b1 : (t179.toList != t189.toList) = true := bne_iff_ne.mpr c83
                                          obtain rfl := Option.some.inj H
                                          have p41 : 0 ≤ ((ji38) : Int) := of_decide_eq_true (by first | (with_reducible assumption) | assumption)
                                          have q41 : (ji38) < (x1_4.size : Int) := of_decide_eq_true (by first | (with_reducible assumption) | assumption)
                                          have hx41 := bt_at x1_4 (ji38)
                                          replace p41 := eq_true p41
                                          replace q41 := eq_true q41
                                          have hnb95 := NB184_194.out
                                          have hnc95 := NB194_184.out
                                          have hcz96_0 : wr.cell? ⟨gb184, 0, none⟩ = some (.int .i64 t175) := (blk_cell BK184.out 0).trans rfl
                                          have hcz96_1 : wr.cell? ⟨gb184, 1, none⟩ = some (.int .i64 t176) := (blk_cell BK184.out 1).trans rfl
                                          have hcz96_2 : wr.cell? ⟨gb184, 2, none⟩ = some (.int .i64 t177) := (blk_cell BK184.out 2).trans rfl
                                          have hcz96_3 : wr.cell? ⟨gb184, 3, none⟩ = some (.int .i64 t178) := (blk_cell BK184.out 3).trans rfl
                                          have hcz96_4 : wr.cell? ⟨gb184, 4, none⟩ = some (.string t179) := (blk_cell BK184.out 4).trans rfl
                                          have hcz96_5 : wr.cell? ⟨gb184, 5, none⟩ = some (.slice Ao15 t180.length co15) := (blk_cell BK184.out 5).trans rfl
                                          have hfz96_0 := blk_frozen BK184.out 0
                                          have hfz96_1 := blk_frozen BK184.out 1
                                          have hfz96_2 := blk_frozen BK184.out 2
                                          have hfz96_3 := blk_frozen BK184.out 3
                                          have hfz96_4 := blk_frozen BK184.out 4
                                          have hfz96_5 := blk_frozen BK184.out 5
                                          have hcz97_0 : wr.cell? ⟨gb194, 0, none⟩ = some (.int .i64 t185) := (blk_cell BK194.out 0).trans rfl
                                          have hcz97_1 : wr.cell? ⟨gb194, 1, none⟩ = some (.int .i64 t186) := (blk_cell BK194.out 1).trans rfl
                                          have hcz97_2 : wr.cell? ⟨gb194, 2, none⟩ = some (.int .i64 t187) := (blk_cell BK194.out 2).trans rfl
                                          have hcz97_3 : wr.cell? ⟨gb194, 3, none⟩ = some (.int .i64 t188) := (blk_cell BK194.out 3).trans rfl
                                          have hcz97_4 : wr.cell? ⟨gb194, 4, none⟩ = some (.string t189) := (blk_cell BK194.out 4).trans rfl
                                          have hcz97_5 : wr.cell? ⟨gb194, 5, none⟩ = some (.slice Ao20 t190.length co20) := (blk_cell BK194.out 5).trans rfl
                                          have hfz97_0 := blk_frozen BK194.out 0
                                          have hfz97_1 := blk_frozen BK194.out 1
                                          have hfz97_2 := blk_frozen BK194.out 2
                                          have hfz97_3 := blk_frozen BK194.out 3
                                          have hfz97_4 := blk_frozen BK194.out 4
                                          have hfz97_5 := blk_frozen BK194.out 5
                                          go_wp2
                                          go_ret
                                          exact ⟨by first | rfl | (simp [errW_none, errW_some] <;> rfl) | (simp only [← hji38]; first | rfl | (simp [errW_none, errW_some] <;> rfl)) | (simp [*, errW_none, errW_some] <;> rfl), by repeat (first | (with_reducible first | exact HB.out | apply below_alloc | apply pw_below_drewN | apply below_drew1 | refine below_set ?_ GE184.out | refine below_set ?_ GE194.out) | exact HB.out)⟩
                                      · rw [if_neg c82] at H
                                        have c82b0 : (t178 == t188) = false := beq_eq_false_iff_ne.mpr c82
                                        have c82b1 : (t178 != t188) = true := bne_iff_ne.mpr c82
                                        obtain rfl := Option.some.inj H
                                        have p41 : 0 ≤ ((ji38) : Int) := of_decide_eq_true (by first | (with_reducible assumption) | assumption)
                                        have q41 : (ji38) < (x1_4.size : Int) := of_decide_eq_true (by first | (with_reducible assumption) | assumption)
                                        have hx41 := bt_at x1_4 (ji38)
                                        replace p41 := eq_true p41
                                        replace q41 := eq_true q41
                                        have hnb98 := NB184_194.out
                                        have hnc98 := NB194_184.out
                                        have hcz99_0 : wr.cell? ⟨gb184, 0, none⟩ = some (.int .i64 t175) := (blk_cell BK184.out 0).trans rfl
                                        have hcz99_1 : wr.cell? ⟨gb184, 1, none⟩ = some (.int .i64 t176) := (blk_cell BK184.out 1).trans rfl
                                        have hcz99_2 : wr.cell? ⟨gb184, 2, none⟩ = some (.int .i64 t177) := (blk_cell BK184.out 2).trans rfl
                                        have hcz99_3 : wr.cell? ⟨gb184, 3, none⟩ = some (.int .i64 t178) := (blk_cell BK184.out 3).trans rfl
                                        have hcz99_4 : wr.cell? ⟨gb184, 4, none⟩ = some (.string t179) := (blk_cell BK184.out 4).trans rfl
                                        have hcz99_5 : wr.cell? ⟨gb184, 5, none⟩ = some (.slice Ao15 t180.length co15) := (blk_cell BK184.out 5).trans rfl
                                        have hfz99_0 := blk_frozen BK184.out 0
                                        have hfz99_1 := blk_frozen BK184.out 1
                                        have hfz99_2 := blk_frozen BK184.out 2
                                        have hfz99_3 := blk_frozen BK184.out 3
                                        have hfz99_4 := blk_frozen BK184.out 4
                                        have hfz99_5 := blk_frozen BK184.out 5
                                        have hcz100_0 : wr.cell? ⟨gb194, 0, none⟩ = some (.int .i64 t185) := (blk_cell BK194.out 0).trans rfl
                                        have hcz100_1 : wr.cell? ⟨gb194, 1, none⟩ = some (.int .i64 t186) := (blk_cell BK194.out 1).trans rfl
                                        have hcz100_2 : wr.cell? ⟨gb194, 2, none⟩ = some (.int .i64 t187) := (blk_cell BK194.out 2).trans rfl
                                        have hcz100_3 : wr.cell? ⟨gb194, 3, none⟩ = some (.int .i64 t188) := (blk_cell BK194.out 3).trans rfl
                                        have hcz100_4 : wr.cell? ⟨gb194, 4, none⟩ = some (.string t189) := (blk_cell BK194.out 4).trans rfl
                                        have hcz100_5 : wr.cell? ⟨gb194, 5, none⟩ = some (.slice Ao20 t190.length co20) := (blk_cell BK194.out 5).trans rfl
                                        have hfz100_0 := blk_frozen BK194.out 0
                                        have hfz100_1 := blk_frozen BK194.out 1
                                        have hfz100_2 := blk_frozen BK194.out 2
                                        have hfz100_3 := blk_frozen BK194.out 3
                                        have hfz100_4 := blk_frozen BK194.out 4
                                        have hfz100_5 := blk_frozen BK194.out 5
                                        go_wp2
                                        go_ret
                                        exact ⟨by first | rfl | (simp [errW_none, errW_some] <;> rfl) | (simp only [← hji38]; first | rfl | (simp [errW_none, errW_some] <;> rfl)) | (simp [*, errW_none, errW_some] <;> rfl), by repeat (first | (with_reducible first | exact HB.out | apply below_alloc | apply pw_below_drewN | apply below_drew1 | refine below_set ?_ GE184.out | refine below_set ?_ GE194.out) | exact HB.out)⟩
                                    · rw [if_neg c81] at H
                                      have c81b0 : (t177 == t187) = false := beq_eq_false_iff_ne.mpr c81
                                      have c81b1 : (t177 != t187) = true := bne_iff_ne.mpr c81
                                      obtain rfl := Option.some.inj H
                                      have p41 : 0 ≤ ((ji38) : Int) := of_decide_eq_true (by first | (with_reducible assumption) | assumption)
                                      have q41 : (ji38) < (x1_4.size : Int) := of_decide_eq_true (by first | (with_reducible assumption) | assumption)
                                      have hx41 := bt_at x1_4 (ji38)
                                      replace p41 := eq_true p41
                                      replace q41 := eq_true q41
                                      have hnb101 := NB184_194.out
                                      have hnc101 := NB194_184.out
                                      have hcz102_0 : wr.cell? ⟨gb184, 0, none⟩ = some (.int .i64 t175) := (blk_cell BK184.out 0).trans rfl
                                      have hcz102_1 : wr.cell? ⟨gb184, 1, none⟩ = some (.int .i64 t176) := (blk_cell BK184.out 1).trans rfl
                                      have hcz102_2 : wr.cell? ⟨gb184, 2, none⟩ = some (.int .i64 t177) := (blk_cell BK184.out 2).trans rfl
                                      have hcz102_3 : wr.cell? ⟨gb184, 3, none⟩ = some (.int .i64 t178) := (blk_cell BK184.out 3).trans rfl
                                      have hcz102_4 : wr.cell? ⟨gb184, 4, none⟩ = some (.string t179) := (blk_cell BK184.out 4).trans rfl
                                      have hcz102_5 : wr.cell? ⟨gb184, 5, none⟩ = some (.slice Ao15 t180.length co15) := (blk_cell BK184.out 5).trans rfl
                                      have hfz102_0 := blk_frozen BK184.out 0
                                      have hfz102_1 := blk_frozen BK184.out 1
                                      have hfz102_2 := blk_frozen BK184.out 2
                                      have hfz102_3 := blk_frozen BK184.out 3
                                      have hfz102_4 := blk_frozen BK184.out 4
                                      have hfz102_5 := blk_frozen BK184.out 5
                                      have hcz103_0 : wr.cell? ⟨gb194, 0, none⟩ = some (.int .i64 t185) := (blk_cell BK194.out 0).trans rfl
                                      have hcz103_1 : wr.cell? ⟨gb194, 1, none⟩ = some (.int .i64 t186) := (blk_cell BK194.out 1).trans rfl
                                      have hcz103_2 : wr.cell? ⟨gb194, 2, none⟩ = some (.int .i64 t187) := (blk_cell BK194.out 2).trans rfl
                                      have hcz103_3 : wr.cell? ⟨gb194, 3, none⟩ = some (.int .i64 t188) := (blk_cell BK194.out 3).trans rfl
                                      have hcz103_4 : wr.cell? ⟨gb194, 4, none⟩ = some (.string t189) := (blk_cell BK194.out 4).trans rfl
                                      have hcz103_5 : wr.cell? ⟨gb194, 5, none⟩ = some (.slice Ao20 t190.length co20) := (blk_cell BK194.out 5).trans rfl
                                      have hfz103_0 := blk_frozen BK194.out 0
                                      have hfz103_1 := blk_frozen BK194.out 1
                                      have hfz103_2 := blk_frozen BK194.out 2
                                      have hfz103_3 := blk_frozen BK194.out 3
                                      have hfz103_4 := blk_frozen BK194.out 4
                                      have hfz103_5 := blk_frozen BK194.out 5
                                      go_wp2
                                      go_ret
                                      exact ⟨by first | rfl | (simp [errW_none, errW_some] <;> rfl) | (simp only [← hji38]; first | rfl | (simp [errW_none, errW_some] <;> rfl)) | (simp [*, errW_none, errW_some] <;> rfl), by repeat (first | (with_reducible first | exact HB.out | apply below_alloc | apply pw_below_drewN | apply below_drew1 | refine below_set ?_ GE184.out | refine below_set ?_ GE194.out) | exact HB.out)⟩
                                  · rw [if_neg c80] at H
                                    have c80b0 : (t176 == t186) = false := beq_eq_false_iff_ne.mpr c80
                                    have c80b1 : (t176 != t186) = true := bne_iff_ne.mpr c80
                                    obtain rfl := Option.some.inj H
                                    have p41 : 0 ≤ ((ji38) : Int) := of_decide_eq_true (by first | (with_reducible assumption) | assumption)
                                    have q41 : (ji38) < (x1_4.size : Int) := of_decide_eq_true (by first | (with_reducible assumption) | assumption)
                                    have hx41 := bt_at x1_4 (ji38)
                                    replace p41 := eq_true p41
                                    replace q41 := eq_true q41
                                    have hnb104 := NB184_194.out
                                    have hnc104 := NB194_184.out
                                    have hcz105_0 : wr.cell? ⟨gb184, 0, none⟩ = some (.int .i64 t175) := (blk_cell BK184.out 0).trans rfl
                                    have hcz105_1 : wr.cell? ⟨gb184, 1, none⟩ = some (.int .i64 t176) := (blk_cell BK184.out 1).trans rfl
                                    have hcz105_2 : wr.cell? ⟨gb184, 2, none⟩ = some (.int .i64 t177) := (blk_cell BK184.out 2).trans rfl
                                    have hcz105_3 : wr.cell? ⟨gb184, 3, none⟩ = some (.int .i64 t178) := (blk_cell BK184.out 3).trans rfl
                                    have hcz105_4 : wr.cell? ⟨gb184, 4, none⟩ = some (.string t179) := (blk_cell BK184.out 4).trans rfl
                                    have hcz105_5 : wr.cell? ⟨gb184, 5, none⟩ = some (.slice Ao15 t180.length co15) := (blk_cell BK184.out 5).trans rfl
                                    have hfz105_0 := blk_frozen BK184.out 0
                                    have hfz105_1 := blk_frozen BK184.out 1
                                    have hfz105_2 := blk_frozen BK184.out 2
                                    have hfz105_3 := blk_frozen BK184.out 3
                                    have hfz105_4 := blk_frozen BK184.out 4
                                    have hfz105_5 := blk_frozen BK184.out 5
                                    have hcz106_0 : wr.cell? ⟨gb194, 0, none⟩ = some (.int .i64 t185) := (blk_cell BK194.out 0).trans rfl
                                    have hcz106_1 : wr.cell? ⟨gb194, 1, none⟩ = some (.int .i64 t186) := (blk_cell BK194.out 1).trans rfl
                                    have hcz106_2 : wr.cell? ⟨gb194, 2, none⟩ = some (.int .i64 t187) := (blk_cell BK194.out 2).trans rfl
                                    have hcz106_3 : wr.cell? ⟨gb194, 3, none⟩ = some (.int .i64 t188) := (blk_cell BK194.out 3).trans rfl
                                    have hcz106_4 : wr.cell? ⟨gb194, 4, none⟩ = some (.string t189) := (blk_cell BK194.out 4).trans rfl
                                    have hcz106_5 : wr.cell? ⟨gb194, 5, none⟩ = some (.slice Ao20 t190.length co20) := (blk_cell BK194.out 5).trans rfl
                                    have hfz106_0 := blk_frozen BK194.out 0
                                    have hfz106_1 := blk_frozen BK194.out 1
                                    have hfz106_2 := blk_frozen BK194.out 2
                                    have hfz106_3 := blk_frozen BK194.out 3
                                    have hfz106_4 := blk_frozen BK194.out 4
                                    have hfz106_5 := blk_frozen BK194.out 5
                                    go_wp2
                                    go_ret
                                    exact ⟨by first | rfl | (simp [errW_none, errW_some] <;> rfl) | (simp only [← hji38]; first | rfl | (simp [errW_none, errW_some] <;> rfl)) | (simp [*, errW_none, errW_some] <;> rfl), by repeat (first | (with_reducible first | exact HB.out | apply below_alloc | apply pw_below_drewN | apply below_drew1 | refine below_set ?_ GE184.out | refine below_set ?_ GE194.out) | exact HB.out)⟩
                                · rw [if_neg c79] at H
                                  have c79b0 : (t175 == t185) = false := beq_eq_false_iff_ne.mpr c79
                                  have c79b1 : (t175 != t185) = true := bne_iff_ne.mpr c79
                                  obtain rfl := Option.some.inj H
                                  have p41 : 0 ≤ ((ji38) : Int) := of_decide_eq_true (by first | (with_reducible assumption) | assumption)
                                  have q41 : (ji38) < (x1_4.size : Int) := of_decide_eq_true (by first | (with_reducible assumption) | assumption)
                                  have hx41 := bt_at x1_4 (ji38)
                                  replace p41 := eq_true p41
                                  replace q41 := eq_true q41
                                  have hnb107 := NB184_194.out
                                  have hnc107 := NB194_184.out
                                  have hcz108_0 : wr.cell? ⟨gb184, 0, none⟩ = some (.int .i64 t175) := (blk_cell BK184.out 0).trans rfl
                                  have hcz108_1 : wr.cell? ⟨gb184, 1, none⟩ = some (.int .i64 t176) := (blk_cell BK184.out 1).trans rfl
                                  have hcz108_2 : wr.cell? ⟨gb184, 2, none⟩ = some (.int .i64 t177) := (blk_cell BK184.out 2).trans rfl
                                  have hcz108_3 : wr.cell? ⟨gb184, 3, none⟩ = some (.int .i64 t178) := (blk_cell BK184.out 3).trans rfl
                                  have hcz108_4 : wr.cell? ⟨gb184, 4, none⟩ = some (.string t179) := (blk_cell BK184.out 4).trans rfl
                                  have hcz108_5 : wr.cell? ⟨gb184, 5, none⟩ = some (.slice Ao15 t180.length co15) := (blk_cell BK184.out 5).trans rfl
                                  have hfz108_0 := blk_frozen BK184.out 0
                                  have hfz108_1 := blk_frozen BK184.out 1
                                  have hfz108_2 := blk_frozen BK184.out 2
                                  have hfz108_3 := blk_frozen BK184.out 3
                                  have hfz108_4 := blk_frozen BK184.out 4
                                  have hfz108_5 := blk_frozen BK184.out 5
                                  have hcz109_0 : wr.cell? ⟨gb194, 0, none⟩ = some (.int .i64 t185) := (blk_cell BK194.out 0).trans rfl
                                  have hcz109_1 : wr.cell? ⟨gb194, 1, none⟩ = some (.int .i64 t186) := (blk_cell BK194.out 1).trans rfl
                                  have hcz109_2 : wr.cell? ⟨gb194, 2, none⟩ = some (.int .i64 t187) := (blk_cell BK194.out 2).trans rfl
                                  have hcz109_3 : wr.cell? ⟨gb194, 3, none⟩ = some (.int .i64 t188) := (blk_cell BK194.out 3).trans rfl
                                  have hcz109_4 : wr.cell? ⟨gb194, 4, none⟩ = some (.string t189) := (blk_cell BK194.out 4).trans rfl
                                  have hcz109_5 : wr.cell? ⟨gb194, 5, none⟩ = some (.slice Ao20 t190.length co20) := (blk_cell BK194.out 5).trans rfl
                                  have hfz109_0 := blk_frozen BK194.out 0
                                  have hfz109_1 := blk_frozen BK194.out 1
                                  have hfz109_2 := blk_frozen BK194.out 2
                                  have hfz109_3 := blk_frozen BK194.out 3
                                  have hfz109_4 := blk_frozen BK194.out 4
                                  have hfz109_5 := blk_frozen BK194.out 5
                                  go_wp2
                                  go_ret
                                  exact ⟨by first | rfl | (simp [errW_none, errW_some] <;> rfl) | (simp only [← hji38]; first | rfl | (simp [errW_none, errW_some] <;> rfl)) | (simp [*, errW_none, errW_some] <;> rfl), by repeat (first | (with_reducible first | exact HB.out | apply below_alloc | apply pw_below_drewN | apply below_drew1 | refine below_set ?_ GE184.out | refine below_set ?_ GE194.out) | exact HB.out)⟩
                            · rw [if_neg c40] at H
                              exact absurd H (by simp)
                          · rw [if_neg c39] at H
                            exact absurd H (by simp)
                        · rw [if_neg c37] at H
                          have c37b0 : decide (0 < (x1_4.size : Int)) = false := decide_eq_false c37
                          have c37b1 : decide (0 < x1_4.size) = false := decide_eq_false (by omega)
                          clear c37
                          by_cases c110 : t175 = t185
                          · rw [if_pos c110] at H
                            have c110b0 : (t175 == t185) = true := beq_iff_eq.mpr c110
                            have c110b1 : (t175 != t185) = false := bne_eq_false_iff_eq.mpr c110
                            clear c110
                            by_cases c111 : t176 = t186
                            · rw [if_pos c111] at H
                              have c111b0 : (t176 == t186) = true := beq_iff_eq.mpr c111
                              have c111b1 : (t176 != t186) = false := bne_eq_false_iff_eq.mpr c111
                              clear c111
                              by_cases c112 : t177 = t187
                              · rw [if_pos c112] at H
                                have c112b0 : (t177 == t187) = true := beq_iff_eq.mpr c112
                                have c112b1 : (t177 != t187) = false := bne_eq_false_iff_eq.mpr c112
                                clear c112
                                by_cases c113 : t178 = t188
                                · rw [if_pos c113] at H
                                  have c113b0 : (t178 == t188) = true := beq_iff_eq.mpr c113
                                  have c113b1 : (t178 != t188) = false := bne_eq_false_iff_eq.mpr c113
                                  clear c113
                                  by_cases c114 : t179.toList = t189.toList
                                  · rw [if_pos c114] at H
                                    have c114b0 : (t179.toList == t189.toList) = true := beq_iff_eq.mpr c114
                                    have c114b1 : (t179.toList != t189.toList) = false := bne_eq_false_iff_eq.mpr c114
                                    clear c114
                                    obtain rfl := Option.some.inj H
                                    have hnb115 := NB184_194.out
                                    have hnc115 := NB194_184.out
                                    have hcz116_0 : wr.cell? ⟨gb184, 0, none⟩ = some (.int .i64 t175) := (blk_cell BK184.out 0).trans rfl
                                    have hcz116_1 : wr.cell? ⟨gb184, 1, none⟩ = some (.int .i64 t176) := (blk_cell BK184.out 1).trans rfl
                                    have hcz116_2 : wr.cell? ⟨gb184, 2, none⟩ = some (.int .i64 t177) := (blk_cell BK184.out 2).trans rfl
                                    have hcz116_3 : wr.cell? ⟨gb184, 3, none⟩ = some (.int .i64 t178) := (blk_cell BK184.out 3).trans rfl
                                    have hcz116_4 : wr.cell? ⟨gb184, 4, none⟩ = some (.string t179) := (blk_cell BK184.out 4).trans rfl
                                    have hcz116_5 : wr.cell? ⟨gb184, 5, none⟩ = some (.slice Ao15 t180.length co15) := (blk_cell BK184.out 5).trans rfl
                                    have hfz116_0 := blk_frozen BK184.out 0
                                    have hfz116_1 := blk_frozen BK184.out 1
                                    have hfz116_2 := blk_frozen BK184.out 2
                                    have hfz116_3 := blk_frozen BK184.out 3
                                    have hfz116_4 := blk_frozen BK184.out 4
                                    have hfz116_5 := blk_frozen BK184.out 5
                                    have hcz117_0 : wr.cell? ⟨gb194, 0, none⟩ = some (.int .i64 t185) := (blk_cell BK194.out 0).trans rfl
                                    have hcz117_1 : wr.cell? ⟨gb194, 1, none⟩ = some (.int .i64 t186) := (blk_cell BK194.out 1).trans rfl
                                    have hcz117_2 : wr.cell? ⟨gb194, 2, none⟩ = some (.int .i64 t187) := (blk_cell BK194.out 2).trans rfl
                                    have hcz117_3 : wr.cell? ⟨gb194, 3, none⟩ = some (.int .i64 t188) := (blk_cell BK194.out 3).trans rfl
                                    have hcz117_4 : wr.cell? ⟨gb194, 4, none⟩ = some (.string t189) := (blk_cell BK194.out 4).trans rfl
                                    have hcz117_5 : wr.cell? ⟨gb194, 5, none⟩ = some (.slice Ao20 t190.length co20) := (blk_cell BK194.out 5).trans rfl
                                    have hfz117_0 := blk_frozen BK194.out 0
                                    have hfz117_1 := blk_frozen BK194.out 1
                                    have hfz117_2 := blk_frozen BK194.out 2
                                    have hfz117_3 := blk_frozen BK194.out 3
                                    have hfz117_4 := blk_frozen BK194.out 4
                                    have hfz117_5 := blk_frozen BK194.out 5
                                    have hcv118 := own_string (P := Tryd.prog) Tryd.underlying23 Tryd.underlying5 Tryd.underlying9 (Kd.own_of_R HO_185005.out)
                                    have hcv119 := r_string_d (P := Tryd.prog) Tryd.underlying23 Tryd.underlying5 Tryd.underlying9 HO_185005.out
                                    (try (have hcv120 := fun u0_ u1_ u2_ u3_ u4_ u5_ => own_string (P := Tryd.prog) Tryd.underlying23 Tryd.underlying5 Tryd.underlying9 (ownsRow_setCell_other (a := ⟨gb184, 5, none⟩) (ownsRow_setCell_other (a := ⟨gb184, 4, none⟩) (ownsRow_setCell_other (a := ⟨gb184, 3, none⟩) (ownsRow_setCell_other (a := ⟨gb184, 2, none⟩) (ownsRow_setCell_other (a := ⟨gb184, 1, none⟩) (ownsRow_setCell_other (a := ⟨gb184, 0, none⟩) (Kd.own_of_R HO_185005.out) (Ne.symm (Kd.R_ne HO_185005.out BK184.out (by decide))) u0_) (Ne.symm (Kd.R_ne HO_185005.out BK184.out (by decide))) u1_) (Ne.symm (Kd.R_ne HO_185005.out BK184.out (by decide))) u2_) (Ne.symm (Kd.R_ne HO_185005.out BK184.out (by decide))) u3_) (Ne.symm (Kd.R_ne HO_185005.out BK184.out (by decide))) u4_) (Ne.symm (Kd.R_ne HO_185005.out BK184.out (by decide))) u5_)))
                                    (try (have hcv121 := fun u0_ u1_ u2_ u3_ u4_ u5_ => own_string (P := Tryd.prog) Tryd.underlying23 Tryd.underlying5 Tryd.underlying9 (ownsRow_setCell_other (a := ⟨gb194, 5, none⟩) (ownsRow_setCell_other (a := ⟨gb194, 4, none⟩) (ownsRow_setCell_other (a := ⟨gb194, 3, none⟩) (ownsRow_setCell_other (a := ⟨gb194, 2, none⟩) (ownsRow_setCell_other (a := ⟨gb194, 1, none⟩) (ownsRow_setCell_other (a := ⟨gb194, 0, none⟩) (Kd.own_of_R HO_185005.out) (Ne.symm (Kd.R_ne HO_185005.out BK194.out (by decide))) u0_) (Ne.symm (Kd.R_ne HO_185005.out BK194.out (by decide))) u1_) (Ne.symm (Kd.R_ne HO_185005.out BK194.out (by decide))) u2_) (Ne.symm (Kd.R_ne HO_185005.out BK194.out (by decide))) u3_) (Ne.symm (Kd.R_ne HO_185005.out BK194.out (by decide))) u4_) (Ne.symm (Kd.R_ne HO_185005.out BK194.out (by decide))) u5_)))
                                    have hcv122 := own_string (P := Tryd.prog) Tryd.underlying23 Tryd.underlying5 Tryd.underlying9 (Kd.own_of_R HO_195005.out)
                                    have hcv123 := r_string_d (P := Tryd.prog) Tryd.underlying23 Tryd.underlying5 Tryd.underlying9 HO_195005.out
                                    (try (have hcv124 := fun u0_ u1_ u2_ u3_ u4_ u5_ => own_string (P := Tryd.prog) Tryd.underlying23 Tryd.underlying5 Tryd.underlying9 (ownsRow_setCell_other (a := ⟨gb184, 5, none⟩) (ownsRow_setCell_other (a := ⟨gb184, 4, none⟩) (ownsRow_setCell_other (a := ⟨gb184, 3, none⟩) (ownsRow_setCell_other (a := ⟨gb184, 2, none⟩) (ownsRow_setCell_other (a := ⟨gb184, 1, none⟩) (ownsRow_setCell_other (a := ⟨gb184, 0, none⟩) (Kd.own_of_R HO_195005.out) (Ne.symm (Kd.R_ne HO_195005.out BK184.out (by decide))) u0_) (Ne.symm (Kd.R_ne HO_195005.out BK184.out (by decide))) u1_) (Ne.symm (Kd.R_ne HO_195005.out BK184.out (by decide))) u2_) (Ne.symm (Kd.R_ne HO_195005.out BK184.out (by decide))) u3_) (Ne.symm (Kd.R_ne HO_195005.out BK184.out (by decide))) u4_) (Ne.symm (Kd.R_ne HO_195005.out BK184.out (by decide))) u5_)))
                                    (try (have hcv125 := fun u0_ u1_ u2_ u3_ u4_ u5_ => own_string (P := Tryd.prog) Tryd.underlying23 Tryd.underlying5 Tryd.underlying9 (ownsRow_setCell_other (a := ⟨gb194, 5, none⟩) (ownsRow_setCell_other (a := ⟨gb194, 4, none⟩) (ownsRow_setCell_other (a := ⟨gb194, 3, none⟩) (ownsRow_setCell_other (a := ⟨gb194, 2, none⟩) (ownsRow_setCell_other (a := ⟨gb194, 1, none⟩) (ownsRow_setCell_other (a := ⟨gb194, 0, none⟩) (Kd.own_of_R HO_195005.out) (Ne.symm (Kd.R_ne HO_195005.out BK194.out (by decide))) u0_) (Ne.symm (Kd.R_ne HO_195005.out BK194.out (by decide))) u1_) (Ne.symm (Kd.R_ne HO_195005.out BK194.out (by decide))) u2_) (Ne.symm (Kd.R_ne HO_195005.out BK194.out (by decide))) u3_) (Ne.symm (Kd.R_ne HO_195005.out BK194.out (by decide))) u4_) (Ne.symm (Kd.R_ne HO_195005.out BK194.out (by decide))) u5_)))
                                    go_wp2
                                    go_ret
                                    exact ⟨by first | rfl | (simp [errW_none, errW_some] <;> rfl) | (simp [*, errW_none, errW_some] <;> rfl), by repeat (first | (with_reducible first | exact HB.out | apply below_alloc | apply pw_below_drewN | apply below_drew1 | refine below_set ?_ GE184.out | refine below_set ?_ GE194.out) | exact HB.out)⟩
                                  · rw [if_neg c114] at H
                                    have c114b0 : (t179.toList == t189.toList) = false := beq_eq_false_iff_ne.mpr c114
                                    have c114b1 : (t179.toList != t189.toList) = true := bne_iff_ne.mpr c114
                                    obtain rfl := Option.some.inj H
                                    have hnb126 := NB184_194.out
                                    have hnc126 := NB194_184.out
                                    have hcz127_0 : wr.cell? ⟨gb184, 0, none⟩ = some (.int .i64 t175) := (blk_cell BK184.out 0).trans rfl
                                    have hcz127_1 : wr.cell? ⟨gb184, 1, none⟩ = some (.int .i64 t176) := (blk_cell BK184.out 1).trans rfl
                                    have hcz127_2 : wr.cell? ⟨gb184, 2, none⟩ = some (.int .i64 t177) := (blk_cell BK184.out 2).trans rfl
                                    have hcz127_3 : wr.cell? ⟨gb184, 3, none⟩ = some (.int .i64 t178) := (blk_cell BK184.out 3).trans rfl
                                    have hcz127_4 : wr.cell? ⟨gb184, 4, none⟩ = some (.string t179) := (blk_cell BK184.out 4).trans rfl
                                    have hcz127_5 : wr.cell? ⟨gb184, 5, none⟩ = some (.slice Ao15 t180.length co15) := (blk_cell BK184.out 5).trans rfl
                                    have hfz127_0 := blk_frozen BK184.out 0
                                    have hfz127_1 := blk_frozen BK184.out 1
                                    have hfz127_2 := blk_frozen BK184.out 2
                                    have hfz127_3 := blk_frozen BK184.out 3
                                    have hfz127_4 := blk_frozen BK184.out 4
                                    have hfz127_5 := blk_frozen BK184.out 5
                                    have hcz128_0 : wr.cell? ⟨gb194, 0, none⟩ = some (.int .i64 t185) := (blk_cell BK194.out 0).trans rfl
                                    have hcz128_1 : wr.cell? ⟨gb194, 1, none⟩ = some (.int .i64 t186) := (blk_cell BK194.out 1).trans rfl
                                    have hcz128_2 : wr.cell? ⟨gb194, 2, none⟩ = some (.int .i64 t187) := (blk_cell BK194.out 2).trans rfl
                                    have hcz128_3 : wr.cell? ⟨gb194, 3, none⟩ = some (.int .i64 t188) := (blk_cell BK194.out 3).trans rfl
                                    have hcz128_4 : wr.cell? ⟨gb194, 4, none⟩ = some (.string t189) := (blk_cell BK194.out 4).trans rfl
                                    have hcz128_5 : wr.cell? ⟨gb194, 5, none⟩ = some (.slice Ao20 t190.length co20) := (blk_cell BK194.out 5).trans rfl
                                    have hfz128_0 := blk_frozen BK194.out 0
                                    have hfz128_1 := blk_frozen BK194.out 1
                                    have hfz128_2 := blk_frozen BK194.out 2
                                    have hfz128_3 := blk_frozen BK194.out 3
                                    have hfz128_4 := blk_frozen BK194.out 4
                                    have hfz128_5 := blk_frozen BK194.out 5
                                    go_wp2
                                    go_ret
                                    exact ⟨by first | rfl | (simp [errW_none, errW_some] <;> rfl) | (simp [*, errW_none, errW_some] <;> rfl), by repeat (first | (with_reducible first | exact HB.out | apply below_alloc | apply pw_below_drewN | apply below_drew1 | refine below_set ?_ GE184.out | refine below_set ?_ GE194.out) | exact HB.out)⟩
                                · rw [if_neg c113] at H
                                  have c113b0 : (t178 == t188) = false := beq_eq_false_iff_ne.mpr c113
                                  have c113b1 : (t178 != t188) = true := bne_iff_ne.mpr c113
                                  obtain rfl := Option.some.inj H
                                  have hnb129 := NB184_194.out
                                  have hnc129 := NB194_184.out
                                  have hcz130_0 : wr.cell? ⟨gb184, 0, none⟩ = some (.int .i64 t175) := (blk_cell BK184.out 0).trans rfl
                                  have hcz130_1 : wr.cell? ⟨gb184, 1, none⟩ = some (.int .i64 t176) := (blk_cell BK184.out 1).trans rfl
                                  have hcz130_2 : wr.cell? ⟨gb184, 2, none⟩ = some (.int .i64 t177) := (blk_cell BK184.out 2).trans rfl
                                  have hcz130_3 : wr.cell? ⟨gb184, 3, none⟩ = some (.int .i64 t178) := (blk_cell BK184.out 3).trans rfl
                                  have hcz130_4 : wr.cell? ⟨gb184, 4, none⟩ = some (.string t179) := (blk_cell BK184.out 4).trans rfl
                                  have hcz130_5 : wr.cell? ⟨gb184, 5, none⟩ = some (.slice Ao15 t180.length co15) := (blk_cell BK184.out 5).trans rfl
                                  have hfz130_0 := blk_frozen BK184.out 0
                                  have hfz130_1 := blk_frozen BK184.out 1
                                  have hfz130_2 := blk_frozen BK184.out 2
                                  have hfz130_3 := blk_frozen BK184.out 3
                                  have hfz130_4 := blk_frozen BK184.out 4
                                  have hfz130_5 := blk_frozen BK184.out 5
                                  have hcz131_0 : wr.cell? ⟨gb194, 0, none⟩ = some (.int .i64 t185) := (blk_cell BK194.out 0).trans rfl
                                  have hcz131_1 : wr.cell? ⟨gb194, 1, none⟩ = some (.int .i64 t186) := (blk_cell BK194.out 1).trans rfl
                                  have hcz131_2 : wr.cell? ⟨gb194, 2, none⟩ = some (.int .i64 t187) := (blk_cell BK194.out 2).trans rfl
                                  have hcz131_3 : wr.cell? ⟨gb194, 3, none⟩ = some (.int .i64 t188) := (blk_cell BK194.out 3).trans rfl
                                  have hcz131_4 : wr.cell? ⟨gb194, 4, none⟩ = some (.string t189) := (blk_cell BK194.out 4).trans rfl
                                  have hcz131_5 : wr.cell? ⟨gb194, 5, none⟩ = some (.slice Ao20 t190.length co20) := (blk_cell BK194.out 5).trans rfl
                                  have hfz131_0 := blk_frozen BK194.out 0
                                  have hfz131_1 := blk_frozen BK194.out 1
                                  have hfz131_2 := blk_frozen BK194.out 2
                                  have hfz131_3 := blk_frozen BK194.out 3
                                  have hfz131_4 := blk_frozen BK194.out 4
                                  have hfz131_5 := blk_frozen BK194.out 5
                                  go_wp2
                                  go_ret
                                  exact ⟨by first | rfl | (simp [errW_none, errW_some] <;> rfl) | (simp [*, errW_none, errW_some] <;> rfl), by repeat (first | (with_reducible first | exact HB.out | apply below_alloc | apply pw_below_drewN | apply below_drew1 | refine below_set ?_ GE184.out | refine below_set ?_ GE194.out) | exact HB.out)⟩
                              · rw [if_neg c112] at H
                                have c112b0 : (t177 == t187) = false := beq_eq_false_iff_ne.mpr c112
                                have c112b1 : (t177 != t187) = true := bne_iff_ne.mpr c112
                                obtain rfl := Option.some.inj H
                                have hnb132 := NB184_194.out
                                have hnc132 := NB194_184.out
                                have hcz133_0 : wr.cell? ⟨gb184, 0, none⟩ = some (.int .i64 t175) := (blk_cell BK184.out 0).trans rfl
                                have hcz133_1 : wr.cell? ⟨gb184, 1, none⟩ = some (.int .i64 t176) := (blk_cell BK184.out 1).trans rfl
                                have hcz133_2 : wr.cell? ⟨gb184, 2, none⟩ = some (.int .i64 t177) := (blk_cell BK184.out 2).trans rfl
                                have hcz133_3 : wr.cell? ⟨gb184, 3, none⟩ = some (.int .i64 t178) := (blk_cell BK184.out 3).trans rfl
                                have hcz133_4 : wr.cell? ⟨gb184, 4, none⟩ = some (.string t179) := (blk_cell BK184.out 4).trans rfl
                                have hcz133_5 : wr.cell? ⟨gb184, 5, none⟩ = some (.slice Ao15 t180.length co15) := (blk_cell BK184.out 5).trans rfl
                                have hfz133_0 := blk_frozen BK184.out 0
                                have hfz133_1 := blk_frozen BK184.out 1
                                have hfz133_2 := blk_frozen BK184.out 2
                                have hfz133_3 := blk_frozen BK184.out 3
                                have hfz133_4 := blk_frozen BK184.out 4
                                have hfz133_5 := blk_frozen BK184.out 5
                                have hcz134_0 : wr.cell? ⟨gb194, 0, none⟩ = some (.int .i64 t185) := (blk_cell BK194.out 0).trans rfl
                                have hcz134_1 : wr.cell? ⟨gb194, 1, none⟩ = some (.int .i64 t186) := (blk_cell BK194.out 1).trans rfl
                                have hcz134_2 : wr.cell? ⟨gb194, 2, none⟩ = some (.int .i64 t187) := (blk_cell BK194.out 2).trans rfl
                                have hcz134_3 : wr.cell? ⟨gb194, 3, none⟩ = some (.int .i64 t188) := (blk_cell BK194.out 3).trans rfl
                                have hcz134_4 : wr.cell? ⟨gb194, 4, none⟩ = some (.string t189) := (blk_cell BK194.out 4).trans rfl
                                have hcz134_5 : wr.cell? ⟨gb194, 5, none⟩ = some (.slice Ao20 t190.length co20) := (blk_cell BK194.out 5).trans rfl
                                have hfz134_0 := blk_frozen BK194.out 0
                                have hfz134_1 := blk_frozen BK194.out 1
                                have hfz134_2 := blk_frozen BK194.out 2
                                have hfz134_3 := blk_frozen BK194.out 3
                                have hfz134_4 := blk_frozen BK194.out 4
                                have hfz134_5 := blk_frozen BK194.out 5
                                go_wp2
                                go_ret
                                exact ⟨by first | rfl | (simp [errW_none, errW_some] <;> rfl) | (simp [*, errW_none, errW_some] <;> rfl), by repeat (first | (with_reducible first | exact HB.out | apply below_alloc | apply pw_below_drewN | apply below_drew1 | refine below_set ?_ GE184.out | refine below_set ?_ GE194.out) | exact HB.out)⟩
                            · rw [if_neg c111] at H
                              have c111b0 : (t176 == t186) = false := beq_eq_false_iff_ne.mpr c111
                              have c111b1 : (t176 != t186) = true := bne_iff_ne.mpr c111
                              obtain rfl := Option.some.inj H
                              have hnb135 := NB184_194.out
                              have hnc135 := NB194_184.out
                              have hcz136_0 : wr.cell? ⟨gb184, 0, none⟩ = some (.int .i64 t175) := (blk_cell BK184.out 0).trans rfl
                              have hcz136_1 : wr.cell? ⟨gb184, 1, none⟩ = some (.int .i64 t176) := (blk_cell BK184.out 1).trans rfl
                              have hcz136_2 : wr.cell? ⟨gb184, 2, none⟩ = some (.int .i64 t177) := (blk_cell BK184.out 2).trans rfl
                              have hcz136_3 : wr.cell? ⟨gb184, 3, none⟩ = some (.int .i64 t178) := (blk_cell BK184.out 3).trans rfl
                              have hcz136_4 : wr.cell? ⟨gb184, 4, none⟩ = some (.string t179) := (blk_cell BK184.out 4).trans rfl
                              have hcz136_5 : wr.cell? ⟨gb184, 5, none⟩ = some (.slice Ao15 t180.length co15) := (blk_cell BK184.out 5).trans rfl
                              have hfz136_0 := blk_frozen BK184.out 0
                              have hfz136_1 := blk_frozen BK184.out 1
                              have hfz136_2 := blk_frozen BK184.out 2
                              have hfz136_3 := blk_frozen BK184.out 3
                              have hfz136_4 := blk_frozen BK184.out 4
                              have hfz136_5 := blk_frozen BK184.out 5
                              have hcz137_0 : wr.cell? ⟨gb194, 0, none⟩ = some (.int .i64 t185) := (blk_cell BK194.out 0).trans rfl
                              have hcz137_1 : wr.cell? ⟨gb194, 1, none⟩ = some (.int .i64 t186) := (blk_cell BK194.out 1).trans rfl
                              have hcz137_2 : wr.cell? ⟨gb194, 2, none⟩ = some (.int .i64 t187) := (blk_cell BK194.out 2).trans rfl
                              have hcz137_3 : wr.cell? ⟨gb194, 3, none⟩ = some (.int .i64 t188) := (blk_cell BK194.out 3).trans rfl
                              have hcz137_4 : wr.cell? ⟨gb194, 4, none⟩ = some (.string t189) := (blk_cell BK194.out 4).trans rfl
                              have hcz137_5 : wr.cell? ⟨gb194, 5, none⟩ = some (.slice Ao20 t190.length co20) := (blk_cell BK194.out 5).trans rfl
                              have hfz137_0 := blk_frozen BK194.out 0
                              have hfz137_1 := blk_frozen BK194.out 1
                              have hfz137_2 := blk_frozen BK194.out 2
                              have hfz137_3 := blk_frozen BK194.out 3
                              have hfz137_4 := blk_frozen BK194.out 4
                              have hfz137_5 := blk_frozen BK194.out 5
                              go_wp2
                              go_ret
                              exact ⟨by first | rfl | (simp [errW_none, errW_some] <;> rfl) | (simp [*, errW_none, errW_some] <;> rfl), by repeat (first | (with_reducible first | exact HB.out | apply below_alloc | apply pw_below_drewN | apply below_drew1 | refine below_set ?_ GE184.out | refine below_set ?_ GE194.out) | exact HB.out)⟩
                          · rw [if_neg c110] at H
                            have c110b0 : (t175 == t185) = false := beq_eq_false_iff_ne.mpr c110
                            have c110b1 : (t175 != t185) = true := bne_iff_ne.mpr c110
                            obtain rfl := Option.some.inj H
                            have hnb138 := NB184_194.out
                            have hnc138 := NB194_184.out
                            have hcz139_0 : wr.cell? ⟨gb184, 0, none⟩ = some (.int .i64 t175) := (blk_cell BK184.out 0).trans rfl
                            have hcz139_1 : wr.cell? ⟨gb184, 1, none⟩ = some (.int .i64 t176) := (blk_cell BK184.out 1).trans rfl
                            have hcz139_2 : wr.cell? ⟨gb184, 2, none⟩ = some (.int .i64 t177) := (blk_cell BK184.out 2).trans rfl
                            have hcz139_3 : wr.cell? ⟨gb184, 3, none⟩ = some (.int .i64 t178) := (blk_cell BK184.out 3).trans rfl
                            have hcz139_4 : wr.cell? ⟨gb184, 4, none⟩ = some (.string t179) := (blk_cell BK184.out 4).trans rfl
                            have hcz139_5 : wr.cell? ⟨gb184, 5, none⟩ = some (.slice Ao15 t180.length co15) := (blk_cell BK184.out 5).trans rfl
                            have hfz139_0 := blk_frozen BK184.out 0
                            have hfz139_1 := blk_frozen BK184.out 1
                            have hfz139_2 := blk_frozen BK184.out 2
                            have hfz139_3 := blk_frozen BK184.out 3
                            have hfz139_4 := blk_frozen BK184.out 4
                            have hfz139_5 := blk_frozen BK184.out 5
                            have hcz140_0 : wr.cell? ⟨gb194, 0, none⟩ = some (.int .i64 t185) := (blk_cell BK194.out 0).trans rfl
                            have hcz140_1 : wr.cell? ⟨gb194, 1, none⟩ = some (.int .i64 t186) := (blk_cell BK194.out 1).trans rfl
                            have hcz140_2 : wr.cell? ⟨gb194, 2, none⟩ = some (.int .i64 t187) := (blk_cell BK194.out 2).trans rfl
                            have hcz140_3 : wr.cell? ⟨gb194, 3, none⟩ = some (.int .i64 t188) := (blk_cell BK194.out 3).trans rfl
                            have hcz140_4 : wr.cell? ⟨gb194, 4, none⟩ = some (.string t189) := (blk_cell BK194.out 4).trans rfl
                            have hcz140_5 : wr.cell? ⟨gb194, 5, none⟩ = some (.slice Ao20 t190.length co20) := (blk_cell BK194.out 5).trans rfl
                            have hfz140_0 := blk_frozen BK194.out 0
                            have hfz140_1 := blk_frozen BK194.out 1
                            have hfz140_2 := blk_frozen BK194.out 2
                            have hfz140_3 := blk_frozen BK194.out 3
                            have hfz140_4 := blk_frozen BK194.out 4
                            have hfz140_5 := blk_frozen BK194.out 5
                            go_wp2
                            go_ret
                            exact ⟨by first | rfl | (simp [errW_none, errW_some] <;> rfl) | (simp [*, errW_none, errW_some] <;> rfl), by repeat (first | (with_reducible first | exact HB.out | apply below_alloc | apply pw_below_drewN | apply below_drew1 | refine below_set ?_ GE184.out | refine below_set ?_ GE194.out) | exact HB.out)⟩
  · replace c4 := Bool.eq_false_iff.mpr c4
    subst c4
    have H1 : (some false) = some r := by rw [if_neg (show ¬ (false = true) by decide)] at H; exact H
    clear H
    have H := H1
    clear H1
    obtain rfl := Option.some.inj H
    go_enter Tryd.func4, Tryd.ntmps4
    go_wp2_with (first | ((with_reducible refine gate_callee (f := 9) rfl ?_); refine goesL_ (some 10) rfl rfl Tryd.func9 (by kernel_rfl) rfl #[] rfl (by (try simp only [List.map_toArray, List.map_cons, List.map_nil]); first | done | rfl | (simp only [List.length_drop, List.length_take]; rfl)) ?_; (with_reducible refine (pannierlaw20_asks.calls k  false _ ?side1 A3.out).mono ?_); (case side1 => exact HE_.out.below (by repeat (first | (with_reducible first | exact HB.out | apply below_alloc | apply pw_below_drewN | apply below_drew1) | exact HB.out))); rintro e w141 ⟨rfl, hb⟩; refine ⟨_, rfl, ?_⟩; have n0_ := Aside0.mk (below_step (by repeat (first | (with_reducible first | exact HB.out | apply below_alloc | apply pw_below_drewN | apply below_drew1) | exact HB.out)) hb); clear HB; have HB := n0_; clear n0_; (try clear hb); (try clear hb2); (try clear hk); (try clear hi)))
    go_ret
    exact ⟨by first | rfl | (simp [errW_none, errW_some] <;> rfl) | (simp [*, errW_none, errW_some] <;> rfl), by repeat (first | (with_reducible first | exact HB.out | apply below_alloc | apply pw_below_drewN | apply below_drew1) | exact HB.out)⟩

end Go.Proofs.YtbkhhmgpfjemcaaDoor.PAsk
