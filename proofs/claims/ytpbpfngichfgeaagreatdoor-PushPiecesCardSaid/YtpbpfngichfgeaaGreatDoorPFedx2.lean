-- Printed by a program of ours (wip/print2).
import Derived.Test.YtpbpfngichfgeaaGreatDoorFedExt
import Derived.Test.YtpbpfngichfgeaaGreatDoorPFedx0
import Derived.Test.YtpbpfngichfgeaaGreatDoorPFedx1
namespace Go.Proofs.YtpbpfngichfgeaaGreatDoor.PFed
open Go.RowKit Go.Proofs.YtpbpfngichfgeaaGreatDoorW.PrintWords Go.Proofs.YtpbpfngichfgeaaGreatDoorW.PrintLast Go.Proofs.YtpbpfngichfgeaaGreatDoorW.PrintMore
attribute [local go_sem] max2_int min2_int max_two min_two max_three min_three max_four min_four   -- for this text's walks alone
set_option linter.unusedVariables false
set_option linter.unusedSimpArgs false

attribute [local go_sem high] eqA57
/-! ### pannierlaw12_same: function 21 -/
mutual
def pannierlaw12_same.j0 : Nat → Bool → List (S57) → Bool → Int → Int → List (S57) → Bool → Int → Int → Option (Bool)
  | 0, _, _, _, _, _, _, _, _, _ => none
  | k + 1, x33, x102000, x102001, x102002, x102003, x103000, x103001, x103002, x103003 => if x33 = true then (some false) else (pannierlaw12_same.l0 k (x102000.length : Int) 0 x102000 x102001 x102002 x102003 x103000 x103001 x103002 x103003)
def pannierlaw12_same.l0 : Nat → Int → Int → List (S57) → Bool → Int → Int → List (S57) → Bool → Int → Int → Option (Bool)
  | 0, _, _, _, _, _, _, _, _, _, _ => none
  | k + 1, x36, x37, x102000, x102001, x102002, x102003, x103000, x103001, x103002, x103003 => if x37 < x36 then (if 0 ≤ x37 then (if x37 < (x102000.length : Int) then (if x37 < (x103000.length : Int) then (if ((!((((rd_T57 x102000 x37).f0.f0).toList) == (((rd_T57 x103000 x37).f0.f0).toList)) || (!((((rd_T57 x102000 x37).f0.f1).toList) == (((rd_T57 x103000 x37).f0.f1).toList)) || (!(((rd_T57 x102000 x37).f0.f2) == ((rd_T57 x103000 x37).f0.f2)) || (!(((rd_T57 x102000 x37).f0.f3) == ((rd_T57 x103000 x37).f0.f3)) || (!(((rd_T57 x102000 x37).f0.f4) == ((rd_T57 x103000 x37).f0.f4)) || (!(((rd_T57 x102000 x37).f0.f5) == ((rd_T57 x103000 x37).f0.f5)) || (!(((rd_T57 x102000 x37).f0.f6) == ((rd_T57 x103000 x37).f0.f6)) || (!(((rd_T57 x102000 x37).f0.f7) == ((rd_T57 x103000 x37).f0.f7)) || (!((((rd_T57 x102000 x37).f0.f8).toList) == (((rd_T57 x103000 x37).f0.f8).toList)) || (!((((rd_T57 x102000 x37).f0.f9).toList) == (((rd_T57 x103000 x37).f0.f9).toList)))))))))))) || (!((((rd_T57 x102000 x37).f1).toList) == (((rd_T57 x103000 x37).f1).toList)) || (!(((rd_T57 x102000 x37).f2) == ((rd_T57 x103000 x37).f2)) || (!(((rd_T57 x102000 x37).f3) == ((rd_T57 x103000 x37).f3)))))) = true then (some false) else (pannierlaw12_same.l0 k x36 (wrap64 (x37 + 1)) x102000 x102001 x102002 x102003 x103000 x103001 x103002 x103003)) else (none)) else (none)) else (none)) else (some true)
end
def pannierlaw12_same.f (k : Nat) (l0_0 : List (S57)) (a0_1 : Bool) (a0_2 : Int) (a0_3 : Int) (l1_0 : List (S57)) (a1_1 : Bool) (a1_2 : Int) (a1_3 : Int) : Option (Bool) := if (a0_1 != a1_1) = true then (pannierlaw12_same.j0 k true l0_0 a0_1 a0_2 a0_3 l1_0 a1_1 a1_2 a1_3) else (if a0_2 = a1_2 then (if a0_3 = a1_3 then (pannierlaw12_same.j0 k ((l0_0.length : Int) != (l1_0.length : Int)) l0_0 a0_1 a0_2 a0_3 l1_0 a1_1 a1_2 a1_3) else (pannierlaw12_same.j0 k true l0_0 a0_1 a0_2 a0_3 l1_0 a1_1 a1_2 a1_3)) else (pannierlaw12_same.j0 k true l0_0 a0_1 a0_2 a0_3 l1_0 a1_1 a1_2 a1_3))
theorem pannierlaw12_same.mono_l : ∀ k, (∀ y0 y1 y2 y3 y4 y5 y6 y7 y8, LeO (pannierlaw12_same.j0 k y0 y1 y2 y3 y4 y5 y6 y7 y8) (pannierlaw12_same.j0 (k + 1) y0 y1 y2 y3 y4 y5 y6 y7 y8)) ∧ (∀ y0 y1 y2 y3 y4 y5 y6 y7 y8 y9, LeO (pannierlaw12_same.l0 k y0 y1 y2 y3 y4 y5 y6 y7 y8 y9) (pannierlaw12_same.l0 (k + 1) y0 y1 y2 y3 y4 y5 y6 y7 y8 y9))
  | 0 => ⟨fun _ _ _ _ _ _ _ _ _ r h => by simp [pannierlaw12_same.j0] at h, fun _ _ _ _ _ _ _ _ _ _ r h => by simp [pannierlaw12_same.l0] at h⟩
  | k + 1 => by
    obtain ⟨ih0, ih1⟩ := pannierlaw12_same.mono_l k
    refine ⟨?_, ?_⟩
    · intro y0 y1 y2 y3 y4 y5 y6 y7 y8
      unfold pannierlaw12_same.j0
      repeat' first
      | (with_reducible exact ih0 _ _ _ _ _ _ _ _ _)
      | (with_reducible exact ih1 _ _ _ _ _ _ _ _ _ _)
      | (with_reducible exact LeO.refl _)
      | (with_reducible exact LeO.none _)
      | (with_reducible refine LeO.ite ?_ ?_)
      | (with_reducible refine LeO.bind ?_ (fun _ => ?_))
      | exact ih0 _ _ _ _ _ _ _ _ _
      | exact ih1 _ _ _ _ _ _ _ _ _ _
      | exact LeO.none _
      | refine LeO.ite ?_ ?_
      | refine LeO.bind ?_ (fun _ => ?_)
    · intro y0 y1 y2 y3 y4 y5 y6 y7 y8 y9
      unfold pannierlaw12_same.l0
      repeat' first
      | (with_reducible exact ih0 _ _ _ _ _ _ _ _ _)
      | (with_reducible exact ih1 _ _ _ _ _ _ _ _ _ _)
      | (with_reducible exact LeO.refl _)
      | (with_reducible exact LeO.none _)
      | (with_reducible refine LeO.ite ?_ ?_)
      | (with_reducible refine LeO.bind ?_ (fun _ => ?_))
      | exact ih0 _ _ _ _ _ _ _ _ _
      | exact ih1 _ _ _ _ _ _ _ _ _ _
      | exact LeO.none _
      | refine LeO.ite ?_ ?_
      | refine LeO.bind ?_ (fun _ => ?_)
theorem pannierlaw12_same.mono : ∀ a0 a1 a2 a3 a4 a5 a6 a7 k, LeO (pannierlaw12_same.f k a0 a1 a2 a3 a4 a5 a6 a7) (pannierlaw12_same.f (k + 1) a0 a1 a2 a3 a4 a5 a6 a7) := by
  intro a0 a1 a2 a3 a4 a5 a6 a7 k
  obtain ⟨ih0, ih1⟩ := pannierlaw12_same.mono_l k
  unfold pannierlaw12_same.f
  repeat' first
      | (with_reducible exact ih0 _ _ _ _ _ _ _ _ _)
      | (with_reducible exact ih1 _ _ _ _ _ _ _ _ _ _)
      | (with_reducible exact LeO.refl _)
      | (with_reducible exact LeO.none _)
      | (with_reducible refine LeO.ite ?_ ?_)
      | (with_reducible refine LeO.bind ?_ (fun _ => ?_))
      | exact ih0 _ _ _ _ _ _ _ _ _
      | exact ih1 _ _ _ _ _ _ _ _ _ _
      | exact LeO.none _
      | refine LeO.ite ?_ ?_
      | refine LeO.bind ?_ (fun _ => ?_)
set_option maxHeartbeats 8000000 in
set_option maxRecDepth 100000 in
theorem pannierlaw12_same.calls (k : Nat) (A0_0 : Option Addr) (c0_0 : Nat) (l0_0 : List (S57)) (a0_1 : Bool) (a0_2 : Int) (a0_3 : Int) (A1_0 : Option Addr) (c1_0 : Nat) (l1_0 : List (S57)) (a1_1 : Bool) (a1_2 : Int) (a1_3 : Int) (r : Bool) (w : World) (hr0_0 : Kd.C k57 w A0_0 l0_0.length l0_0) (hc0_0 : l0_0.length ≤ c0_0) (hr1_0 : Kd.C k57 w A1_0 l1_0.length l1_0) (hc1_0 : l1_0.length ≤ c1_0) (h : pannierlaw12_same.f k l0_0 a0_1 a0_2 a0_3 l1_0 a1_1 a1_2 a1_3 = some r) :
    Calls Tryz.prog 21 #[.agg #[.slice A0_0 l0_0.length c0_0, .bool a0_1, .int .i64 a0_2, .int .i64 a0_3], .agg #[.slice A1_0 l1_0.length c1_0, .bool a1_1, .int .i64 a1_2, .int .i64 a1_3]] w fun e w' => e = .returned (.bool r) ∧ Below w.heap.size w w' := by
  have hu49 := Tryz.underlying49
  have hu57 := Tryz.underlying57
  have HR0_0 := Aside0.mk hr0_0
  have HC0_0 := Aside0.mk hc0_0
  clear hr0_0 hc0_0
  have HR1_0 := Aside0.mk hr1_0
  have HC1_0 := Aside0.mk hc1_0
  clear hr1_0 hc1_0
  have HB := Aside0.mk (Below.refl w.heap.size w)
  have H : (if (a0_1 != a1_1) = true then (pannierlaw12_same.j0 k true l0_0 a0_1 a0_2 a0_3 l1_0 a1_1 a1_2 a1_3) else (if a0_2 = a1_2 then (if a0_3 = a1_3 then (pannierlaw12_same.j0 k ((l0_0.length : Int) != (l1_0.length : Int)) l0_0 a0_1 a0_2 a0_3 l1_0 a1_1 a1_2 a1_3) else (pannierlaw12_same.j0 k true l0_0 a0_1 a0_2 a0_3 l1_0 a1_1 a1_2 a1_3)) else (pannierlaw12_same.j0 k true l0_0 a0_1 a0_2 a0_3 l1_0 a1_1 a1_2 a1_3))) = some r := h
  clear h
  have HC3 := Aside0.mk H
  clear H
  go_enter Tryz.func21, Tryz.ntmps21
  go_upto_region 1 with (first | ((with_reducible refine gate_dst (N := 2) rfl ?_); (try (refine gate_guard (by rfl) ?_; dsimp only)); refine box_event ?hg (N := 2) ?hd (cs := #[.slice A0_0 l0_0.length c0_0, .bool a0_1, .int .i64 a0_2, .int .i64 a0_3]) (t := 49) ?hr ?_; (case hd => rfl); (case hg => rfl); (case hr => first | (go_simp; done) | (go_simp; rfl)); intro gb101 hg w4 hbox hb; have n0_ := Aside0.mk (below_step (by repeat (first | (with_reducible first | exact HB.out | apply below_alloc | apply pw_below_drewN | apply below_drew1) | exact HB.out)) hb); have n1_ := Aside0.mk (hbox); have n2_ := Aside0.mk ((by rw [hg]; exact (below_size (by repeat (first | (with_reducible first | exact HB.out | apply below_alloc | apply pw_below_drewN | apply below_drew1) | exact HB.out))) : w.heap.size ≤ gb101)); have n3_ := Aside0.mk ((by rw [hg]; exact (below_size (by repeat (first | (with_reducible first | exact HB.out | apply below_alloc | apply pw_below_drewN | apply below_drew1) | exact HB.out))) : w.heap.size ≤ gb101)); clear HB; have HB := n0_; have BK101 := n1_; have GW101 := n2_; have GE101 := n3_; clear n0_ n1_ n2_ n3_; clear hb hbox hg) | ((with_reducible refine gate_dst (N := 3) rfl ?_); (try (refine gate_guard (by rfl) ?_; dsimp only)); refine box_event ?hg (N := 3) ?hd (cs := #[.slice A1_0 l1_0.length c1_0, .bool a1_1, .int .i64 a1_2, .int .i64 a1_3]) (t := 49) ?hr ?_; (case hd => rfl); (case hg => rfl); (case hr => first | (go_simp; done) | (go_simp; rfl)); intro gb102 hg w5 hbox hb; have n0_ := Aside0.mk (blk_below (g := gb101) (o := .cells #[.slice A0_0 l0_0.length c0_0, .bool a0_1, .int .i64 a0_2, .int .i64 a0_3] 49 (0, 0)) (by (with_reducible repeat (first | refine blk_drewN ?_ _ | refine blk_drew ?_ | refine blk_alloc ?_ _)); exact BK101.out) hb); have n1_ := Aside0.mk (below_step (by repeat (first | (with_reducible first | exact HB.out | apply below_alloc | apply pw_below_drewN | apply below_drew1 | refine below_set ?_ GE101.out) | exact HB.out)) hb); have n2_ := Aside0.mk (hbox); have n3_ := Aside0.mk ((by rw [hg]; exact (below_size (by repeat (first | (with_reducible first | exact HB.out | apply below_alloc | apply pw_below_drewN | apply below_drew1 | refine below_set ?_ GE101.out) | exact HB.out))) : w.heap.size ≤ gb102)); have n4_ := Aside0.mk ((by rw [hg]; exact (below_size (by repeat (first | (with_reducible first | exact HB.out | apply below_alloc | apply pw_below_drewN | apply below_drew1 | refine below_set ?_ GE101.out) | exact HB.out))) : w.heap.size ≤ gb102)); have n5_ := Aside0.mk ((by rw [hg]; exact Nat.ne_of_lt (blk_lt (g := gb101) (o := .cells #[.slice A0_0 l0_0.length c0_0, .bool a0_1, .int .i64 a0_2, .int .i64 a0_3] 49 (0, 0)) (by (with_reducible repeat (first | refine blk_drewN ?_ _ | refine blk_drew ?_ | refine blk_alloc ?_ _)); exact BK101.out)) : gb101 ≠ gb102)); have n6_ := Aside0.mk ((by rw [hg]; exact Nat.ne_of_gt (blk_lt (g := gb101) (o := .cells #[.slice A0_0 l0_0.length c0_0, .bool a0_1, .int .i64 a0_2, .int .i64 a0_3] 49 (0, 0)) (by (with_reducible repeat (first | refine blk_drewN ?_ _ | refine blk_drew ?_ | refine blk_alloc ?_ _)); exact BK101.out)) : gb102 ≠ gb101)); clear BK101; clear HB; have BK101 := n0_; have HB := n1_; have BK102 := n2_; have GW102 := n3_; have GE102 := n4_; have NB101_102 := n5_; have NB102_101 := n6_; clear n0_ n1_ n2_ n3_ n4_ n5_ n6_; clear hb hbox hg))
  repeat (go_quiet (first | ((with_reducible refine gate_dst (N := 2) rfl ?_); (try (refine gate_guard (by rfl) ?_; dsimp only)); refine box_event ?hg (N := 2) ?hd (cs := #[.slice A0_0 l0_0.length c0_0, .bool a0_1, .int .i64 a0_2, .int .i64 a0_3]) (t := 49) ?hr ?_; (case hd => rfl); (case hg => rfl); (case hr => first | (go_simp; done) | (go_simp; rfl)); intro gb101 hg w4 hbox hb; have n0_ := Aside0.mk (below_step (by repeat (first | (with_reducible first | exact HB.out | apply below_alloc | apply pw_below_drewN | apply below_drew1) | exact HB.out)) hb); have n1_ := Aside0.mk (hbox); have n2_ := Aside0.mk ((by rw [hg]; exact (below_size (by repeat (first | (with_reducible first | exact HB.out | apply below_alloc | apply pw_below_drewN | apply below_drew1) | exact HB.out))) : w.heap.size ≤ gb101)); have n3_ := Aside0.mk ((by rw [hg]; exact (below_size (by repeat (first | (with_reducible first | exact HB.out | apply below_alloc | apply pw_below_drewN | apply below_drew1) | exact HB.out))) : w.heap.size ≤ gb101)); clear HB; have HB := n0_; have BK101 := n1_; have GW101 := n2_; have GE101 := n3_; clear n0_ n1_ n2_ n3_; clear hb hbox hg) | ((with_reducible refine gate_dst (N := 3) rfl ?_); (try (refine gate_guard (by rfl) ?_; dsimp only)); refine box_event ?hg (N := 3) ?hd (cs := #[.slice A1_0 l1_0.length c1_0, .bool a1_1, .int .i64 a1_2, .int .i64 a1_3]) (t := 49) ?hr ?_; (case hd => rfl); (case hg => rfl); (case hr => first | (go_simp; done) | (go_simp; rfl)); intro gb102 hg w5 hbox hb; have n0_ := Aside0.mk (blk_below (g := gb101) (o := .cells #[.slice A0_0 l0_0.length c0_0, .bool a0_1, .int .i64 a0_2, .int .i64 a0_3] 49 (0, 0)) (by (with_reducible repeat (first | refine blk_drewN ?_ _ | refine blk_drew ?_ | refine blk_alloc ?_ _)); exact BK101.out) hb); have n1_ := Aside0.mk (below_step (by repeat (first | (with_reducible first | exact HB.out | apply below_alloc | apply pw_below_drewN | apply below_drew1 | refine below_set ?_ GE101.out) | exact HB.out)) hb); have n2_ := Aside0.mk (hbox); have n3_ := Aside0.mk ((by rw [hg]; exact (below_size (by repeat (first | (with_reducible first | exact HB.out | apply below_alloc | apply pw_below_drewN | apply below_drew1 | refine below_set ?_ GE101.out) | exact HB.out))) : w.heap.size ≤ gb102)); have n4_ := Aside0.mk ((by rw [hg]; exact (below_size (by repeat (first | (with_reducible first | exact HB.out | apply below_alloc | apply pw_below_drewN | apply below_drew1 | refine below_set ?_ GE101.out) | exact HB.out))) : w.heap.size ≤ gb102)); have n5_ := Aside0.mk ((by rw [hg]; exact Nat.ne_of_lt (blk_lt (g := gb101) (o := .cells #[.slice A0_0 l0_0.length c0_0, .bool a0_1, .int .i64 a0_2, .int .i64 a0_3] 49 (0, 0)) (by (with_reducible repeat (first | refine blk_drewN ?_ _ | refine blk_drew ?_ | refine blk_alloc ?_ _)); exact BK101.out)) : gb101 ≠ gb102)); have n6_ := Aside0.mk ((by rw [hg]; exact Nat.ne_of_gt (blk_lt (g := gb101) (o := .cells #[.slice A0_0 l0_0.length c0_0, .bool a0_1, .int .i64 a0_2, .int .i64 a0_3] 49 (0, 0)) (by (with_reducible repeat (first | refine blk_drewN ?_ _ | refine blk_drew ?_ | refine blk_alloc ?_ _)); exact BK101.out)) : gb102 ≠ gb101)); clear BK101; clear HB; have BK101 := n0_; have HB := n1_; have BK102 := n2_; have GW102 := n3_; have GE102 := n4_; have NB101_102 := n5_; have NB102_101 := n6_; clear n0_ n1_ n2_ n3_ n4_ n5_ n6_; clear hb hbox hg)); go_upto_region 1 with (first | ((with_reducible refine gate_dst (N := 2) rfl ?_); (try (refine gate_guard (by rfl) ?_; dsimp only)); refine box_event ?hg (N := 2) ?hd (cs := #[.slice A0_0 l0_0.length c0_0, .bool a0_1, .int .i64 a0_2, .int .i64 a0_3]) (t := 49) ?hr ?_; (case hd => rfl); (case hg => rfl); (case hr => first | (go_simp; done) | (go_simp; rfl)); intro gb101 hg w4 hbox hb; have n0_ := Aside0.mk (below_step (by repeat (first | (with_reducible first | exact HB.out | apply below_alloc | apply pw_below_drewN | apply below_drew1) | exact HB.out)) hb); have n1_ := Aside0.mk (hbox); have n2_ := Aside0.mk ((by rw [hg]; exact (below_size (by repeat (first | (with_reducible first | exact HB.out | apply below_alloc | apply pw_below_drewN | apply below_drew1) | exact HB.out))) : w.heap.size ≤ gb101)); have n3_ := Aside0.mk ((by rw [hg]; exact (below_size (by repeat (first | (with_reducible first | exact HB.out | apply below_alloc | apply pw_below_drewN | apply below_drew1) | exact HB.out))) : w.heap.size ≤ gb101)); clear HB; have HB := n0_; have BK101 := n1_; have GW101 := n2_; have GE101 := n3_; clear n0_ n1_ n2_ n3_; clear hb hbox hg) | ((with_reducible refine gate_dst (N := 3) rfl ?_); (try (refine gate_guard (by rfl) ?_; dsimp only)); refine box_event ?hg (N := 3) ?hd (cs := #[.slice A1_0 l1_0.length c1_0, .bool a1_1, .int .i64 a1_2, .int .i64 a1_3]) (t := 49) ?hr ?_; (case hd => rfl); (case hg => rfl); (case hr => first | (go_simp; done) | (go_simp; rfl)); intro gb102 hg w5 hbox hb; have n0_ := Aside0.mk (blk_below (g := gb101) (o := .cells #[.slice A0_0 l0_0.length c0_0, .bool a0_1, .int .i64 a0_2, .int .i64 a0_3] 49 (0, 0)) (by (with_reducible repeat (first | refine blk_drewN ?_ _ | refine blk_drew ?_ | refine blk_alloc ?_ _)); exact BK101.out) hb); have n1_ := Aside0.mk (below_step (by repeat (first | (with_reducible first | exact HB.out | apply below_alloc | apply pw_below_drewN | apply below_drew1 | refine below_set ?_ GE101.out) | exact HB.out)) hb); have n2_ := Aside0.mk (hbox); have n3_ := Aside0.mk ((by rw [hg]; exact (below_size (by repeat (first | (with_reducible first | exact HB.out | apply below_alloc | apply pw_below_drewN | apply below_drew1 | refine below_set ?_ GE101.out) | exact HB.out))) : w.heap.size ≤ gb102)); have n4_ := Aside0.mk ((by rw [hg]; exact (below_size (by repeat (first | (with_reducible first | exact HB.out | apply below_alloc | apply pw_below_drewN | apply below_drew1 | refine below_set ?_ GE101.out) | exact HB.out))) : w.heap.size ≤ gb102)); have n5_ := Aside0.mk ((by rw [hg]; exact Nat.ne_of_lt (blk_lt (g := gb101) (o := .cells #[.slice A0_0 l0_0.length c0_0, .bool a0_1, .int .i64 a0_2, .int .i64 a0_3] 49 (0, 0)) (by (with_reducible repeat (first | refine blk_drewN ?_ _ | refine blk_drew ?_ | refine blk_alloc ?_ _)); exact BK101.out)) : gb101 ≠ gb102)); have n6_ := Aside0.mk ((by rw [hg]; exact Nat.ne_of_gt (blk_lt (g := gb101) (o := .cells #[.slice A0_0 l0_0.length c0_0, .bool a0_1, .int .i64 a0_2, .int .i64 a0_3] 49 (0, 0)) (by (with_reducible repeat (first | refine blk_drewN ?_ _ | refine blk_drew ?_ | refine blk_alloc ?_ _)); exact BK101.out)) : gb102 ≠ gb101)); clear BK101; clear HB; have BK101 := n0_; have HB := n1_; have BK102 := n2_; have GW102 := n3_; have GE102 := n4_; have NB101_102 := n5_; have NB102_101 := n6_; clear n0_ n1_ n2_ n3_ n4_ n5_ n6_; clear hb hbox hg)))
  (try simp only [Act.put, List.setIfInBounds_toArray, List.set_cons_zero, List.set_cons_succ])
  go_cut [33] (fun v33 wc => ∃ (kq : Nat) (x33_2 : Bool), v33 = .bool x33_2 ∧ Aside0 (pannierlaw12_same.j0 kq x33_2 l0_0 a0_1 a0_2 a0_3 l1_0 a1_1 a1_2 a1_3 = some r) ∧ Aside0 (kq ≤ k) ∧ Aside0 (wc.heap[gb101]? = some (.cells #[(.slice A0_0 l0_0.length c0_0), .bool a0_1, .int .i64 a0_2, .int .i64 a0_3] 49 (0, 0))) ∧ Aside0 (wc.heap[gb102]? = some (.cells #[(.slice A1_0 l1_0.length c1_0), .bool a1_1, .int .i64 a1_2, .int .i64 a1_3] 49 (0, 0))) ∧ Aside0 (Below w.heap.size w wc))
  case first =>
    have H := HC3.out
    clear HC3
    by_cases c6 : (a0_1 != a1_1) = true
    · rw [if_pos c6] at H
      have c6b0 : (a0_1 != a1_1) = true := c6
      (try (have c6b1 : decide (a0_1 = a1_1) = false := by simpa using c6))
      (try (have c6b2 : (a0_1 == a1_1) = false := by simpa using c6))
      (try (have c6b3 : ¬ (a0_1 = a1_1) := by simpa using c6))
      clear c6
      (first | rw [c6b0] | (simp only [i64_w, i32_w]; rw [c6b0]) | skip)
      have H' := Aside0.mk H
      clear H
      have hnb7 := NB101_102.out
      have hnc7 := NB102_101.out
      have hcz8_0 : w5.cell? ⟨gb101, 0, none⟩ = some (.slice A0_0 l0_0.length c0_0) := (blk_cell BK101.out 0).trans rfl
      have hcz8_1 : w5.cell? ⟨gb101, 1, none⟩ = some (.bool a0_1) := (blk_cell BK101.out 1).trans rfl
      have hcz8_2 : w5.cell? ⟨gb101, 2, none⟩ = some (.int .i64 a0_2) := (blk_cell BK101.out 2).trans rfl
      have hcz8_3 : w5.cell? ⟨gb101, 3, none⟩ = some (.int .i64 a0_3) := (blk_cell BK101.out 3).trans rfl
      have hfz8_0 := blk_frozen BK101.out 0
      have hfz8_1 := blk_frozen BK101.out 1
      have hfz8_2 := blk_frozen BK101.out 2
      have hfz8_3 := blk_frozen BK101.out 3
      have hcz9_0 : w5.cell? ⟨gb102, 0, none⟩ = some (.slice A1_0 l1_0.length c1_0) := (blk_cell BK102.out 0).trans rfl
      have hcz9_1 : w5.cell? ⟨gb102, 1, none⟩ = some (.bool a1_1) := (blk_cell BK102.out 1).trans rfl
      have hcz9_2 : w5.cell? ⟨gb102, 2, none⟩ = some (.int .i64 a1_2) := (blk_cell BK102.out 2).trans rfl
      have hcz9_3 : w5.cell? ⟨gb102, 3, none⟩ = some (.int .i64 a1_3) := (blk_cell BK102.out 3).trans rfl
      have hfz9_0 := blk_frozen BK102.out 0
      have hfz9_1 := blk_frozen BK102.out 1
      have hfz9_2 := blk_frozen BK102.out 2
      have hfz9_3 := blk_frozen BK102.out 3
      go_wp2
      repeat (go_quiet (fail); try go_wp2)
      go_meet
      case rel => exact ⟨_, (true), (by first | rfl | (simp; done) | (simp; exact (fun l_ : List UInt8 => (by cases l_ <;> rfl : l_.isEmpty = !(l_ != []))) _) | (simp; exact (fun (x_ : Bool) (l_ : List UInt8) => (by cases x_ <;> cases l_ <;> rfl : (x_ == !l_.isEmpty) = !(x_ != (l_ != [])))) _ _) | (simp [*]; done)), H', ⟨by first | omega | exact Nat.le_refl _⟩, ⟨by (with_reducible repeat (first | refine blk_drewN ?_ _ | refine blk_drew ?_ | refine blk_alloc ?_ _)); exact BK101.out⟩, ⟨by (with_reducible repeat (first | refine blk_drewN ?_ _ | refine blk_drew ?_ | refine blk_alloc ?_ _)); exact BK102.out⟩, ⟨by repeat (first | (with_reducible first | exact HB.out | apply below_alloc | apply pw_below_drewN | apply below_drew1 | refine below_set ?_ GE101.out | refine below_set ?_ GE102.out) | exact HB.out)⟩⟩
    · rw [if_neg c6] at H
      have c6b0 : (a0_1 != a1_1) = false := by simpa using c6
      (try (have c6b1 : decide (a0_1 = a1_1) = true := by simpa using c6))
      (try (have c6b2 : (a0_1 == a1_1) = true := by simpa using c6))
      clear c6
      (first | rw [c6b0] | (simp only [i64_w, i32_w]; rw [c6b0]) | skip)
      by_cases c10 : a0_2 = a1_2
      · rw [if_pos c10] at H
        have c10b0 : (a0_2 == a1_2) = true := beq_iff_eq.mpr c10
        have c10b1 : (a0_2 != a1_2) = false := bne_eq_false_iff_eq.mpr c10
        clear c10
        by_cases c11 : a0_3 = a1_3
        · rw [if_pos c11] at H
          have c11b0 : (a0_3 == a1_3) = true := beq_iff_eq.mpr c11
          have c11b1 : (a0_3 != a1_3) = false := bne_eq_false_iff_eq.mpr c11
          clear c11
          have H' := Aside0.mk H
          clear H
          have hnb12 := NB101_102.out
          have hnc12 := NB102_101.out
          have hcz13_0 : w5.cell? ⟨gb101, 0, none⟩ = some (.slice A0_0 l0_0.length c0_0) := (blk_cell BK101.out 0).trans rfl
          have hcz13_1 : w5.cell? ⟨gb101, 1, none⟩ = some (.bool a0_1) := (blk_cell BK101.out 1).trans rfl
          have hcz13_2 : w5.cell? ⟨gb101, 2, none⟩ = some (.int .i64 a0_2) := (blk_cell BK101.out 2).trans rfl
          have hcz13_3 : w5.cell? ⟨gb101, 3, none⟩ = some (.int .i64 a0_3) := (blk_cell BK101.out 3).trans rfl
          have hfz13_0 := blk_frozen BK101.out 0
          have hfz13_1 := blk_frozen BK101.out 1
          have hfz13_2 := blk_frozen BK101.out 2
          have hfz13_3 := blk_frozen BK101.out 3
          have hcz14_0 : w5.cell? ⟨gb102, 0, none⟩ = some (.slice A1_0 l1_0.length c1_0) := (blk_cell BK102.out 0).trans rfl
          have hcz14_1 : w5.cell? ⟨gb102, 1, none⟩ = some (.bool a1_1) := (blk_cell BK102.out 1).trans rfl
          have hcz14_2 : w5.cell? ⟨gb102, 2, none⟩ = some (.int .i64 a1_2) := (blk_cell BK102.out 2).trans rfl
          have hcz14_3 : w5.cell? ⟨gb102, 3, none⟩ = some (.int .i64 a1_3) := (blk_cell BK102.out 3).trans rfl
          have hfz14_0 := blk_frozen BK102.out 0
          have hfz14_1 := blk_frozen BK102.out 1
          have hfz14_2 := blk_frozen BK102.out 2
          have hfz14_3 := blk_frozen BK102.out 3
          go_wp2
          repeat (go_quiet (fail); try go_wp2)
          go_meet
          case rel => exact ⟨_, (((l0_0.length : Int) != (l1_0.length : Int))), (by first | rfl | (simp; done) | (simp; exact (fun l_ : List UInt8 => (by cases l_ <;> rfl : l_.isEmpty = !(l_ != []))) _) | (simp; exact (fun (x_ : Bool) (l_ : List UInt8) => (by cases x_ <;> cases l_ <;> rfl : (x_ == !l_.isEmpty) = !(x_ != (l_ != [])))) _ _) | (simp [*]; done)), H', ⟨by first | omega | exact Nat.le_refl _⟩, ⟨by (with_reducible repeat (first | refine blk_drewN ?_ _ | refine blk_drew ?_ | refine blk_alloc ?_ _)); exact BK101.out⟩, ⟨by (with_reducible repeat (first | refine blk_drewN ?_ _ | refine blk_drew ?_ | refine blk_alloc ?_ _)); exact BK102.out⟩, ⟨by repeat (first | (with_reducible first | exact HB.out | apply below_alloc | apply pw_below_drewN | apply below_drew1 | refine below_set ?_ GE101.out | refine below_set ?_ GE102.out) | exact HB.out)⟩⟩
        · rw [if_neg c11] at H
          have c11b0 : (a0_3 == a1_3) = false := beq_eq_false_iff_ne.mpr c11
          have c11b1 : (a0_3 != a1_3) = true := bne_iff_ne.mpr c11
          have H' := Aside0.mk H
          clear H
          have hnb15 := NB101_102.out
          have hnc15 := NB102_101.out
          have hcz16_0 : w5.cell? ⟨gb101, 0, none⟩ = some (.slice A0_0 l0_0.length c0_0) := (blk_cell BK101.out 0).trans rfl
          have hcz16_1 : w5.cell? ⟨gb101, 1, none⟩ = some (.bool a0_1) := (blk_cell BK101.out 1).trans rfl
          have hcz16_2 : w5.cell? ⟨gb101, 2, none⟩ = some (.int .i64 a0_2) := (blk_cell BK101.out 2).trans rfl
          have hcz16_3 : w5.cell? ⟨gb101, 3, none⟩ = some (.int .i64 a0_3) := (blk_cell BK101.out 3).trans rfl
          have hfz16_0 := blk_frozen BK101.out 0
          have hfz16_1 := blk_frozen BK101.out 1
          have hfz16_2 := blk_frozen BK101.out 2
          have hfz16_3 := blk_frozen BK101.out 3
          have hcz17_0 : w5.cell? ⟨gb102, 0, none⟩ = some (.slice A1_0 l1_0.length c1_0) := (blk_cell BK102.out 0).trans rfl
          have hcz17_1 : w5.cell? ⟨gb102, 1, none⟩ = some (.bool a1_1) := (blk_cell BK102.out 1).trans rfl
          have hcz17_2 : w5.cell? ⟨gb102, 2, none⟩ = some (.int .i64 a1_2) := (blk_cell BK102.out 2).trans rfl
          have hcz17_3 : w5.cell? ⟨gb102, 3, none⟩ = some (.int .i64 a1_3) := (blk_cell BK102.out 3).trans rfl
          have hfz17_0 := blk_frozen BK102.out 0
          have hfz17_1 := blk_frozen BK102.out 1
          have hfz17_2 := blk_frozen BK102.out 2
          have hfz17_3 := blk_frozen BK102.out 3
          go_wp2
          repeat (go_quiet (fail); try go_wp2)
          go_meet
          case rel => exact ⟨_, (true), (by first | rfl | (simp; done) | (simp; exact (fun l_ : List UInt8 => (by cases l_ <;> rfl : l_.isEmpty = !(l_ != []))) _) | (simp; exact (fun (x_ : Bool) (l_ : List UInt8) => (by cases x_ <;> cases l_ <;> rfl : (x_ == !l_.isEmpty) = !(x_ != (l_ != [])))) _ _) | (simp [*]; done)), H', ⟨by first | omega | exact Nat.le_refl _⟩, ⟨by (with_reducible repeat (first | refine blk_drewN ?_ _ | refine blk_drew ?_ | refine blk_alloc ?_ _)); exact BK101.out⟩, ⟨by (with_reducible repeat (first | refine blk_drewN ?_ _ | refine blk_drew ?_ | refine blk_alloc ?_ _)); exact BK102.out⟩, ⟨by repeat (first | (with_reducible first | exact HB.out | apply below_alloc | apply pw_below_drewN | apply below_drew1 | refine below_set ?_ GE101.out | refine below_set ?_ GE102.out) | exact HB.out)⟩⟩
      · rw [if_neg c10] at H
        have c10b0 : (a0_2 == a1_2) = false := beq_eq_false_iff_ne.mpr c10
        have c10b1 : (a0_2 != a1_2) = true := bne_iff_ne.mpr c10
        have H' := Aside0.mk H
        clear H
        have hnb18 := NB101_102.out
        have hnc18 := NB102_101.out
        have hcz19_0 : w5.cell? ⟨gb101, 0, none⟩ = some (.slice A0_0 l0_0.length c0_0) := (blk_cell BK101.out 0).trans rfl
        have hcz19_1 : w5.cell? ⟨gb101, 1, none⟩ = some (.bool a0_1) := (blk_cell BK101.out 1).trans rfl
        have hcz19_2 : w5.cell? ⟨gb101, 2, none⟩ = some (.int .i64 a0_2) := (blk_cell BK101.out 2).trans rfl
        have hcz19_3 : w5.cell? ⟨gb101, 3, none⟩ = some (.int .i64 a0_3) := (blk_cell BK101.out 3).trans rfl
        have hfz19_0 := blk_frozen BK101.out 0
        have hfz19_1 := blk_frozen BK101.out 1
        have hfz19_2 := blk_frozen BK101.out 2
        have hfz19_3 := blk_frozen BK101.out 3
        have hcz20_0 : w5.cell? ⟨gb102, 0, none⟩ = some (.slice A1_0 l1_0.length c1_0) := (blk_cell BK102.out 0).trans rfl
        have hcz20_1 : w5.cell? ⟨gb102, 1, none⟩ = some (.bool a1_1) := (blk_cell BK102.out 1).trans rfl
        have hcz20_2 : w5.cell? ⟨gb102, 2, none⟩ = some (.int .i64 a1_2) := (blk_cell BK102.out 2).trans rfl
        have hcz20_3 : w5.cell? ⟨gb102, 3, none⟩ = some (.int .i64 a1_3) := (blk_cell BK102.out 3).trans rfl
        have hfz20_0 := blk_frozen BK102.out 0
        have hfz20_1 := blk_frozen BK102.out 1
        have hfz20_2 := blk_frozen BK102.out 2
        have hfz20_3 := blk_frozen BK102.out 3
        go_wp2
        repeat (go_quiet (fail); try go_wp2)
        go_meet
        case rel => exact ⟨_, (true), (by first | rfl | (simp; done) | (simp; exact (fun l_ : List UInt8 => (by cases l_ <;> rfl : l_.isEmpty = !(l_ != []))) _) | (simp; exact (fun (x_ : Bool) (l_ : List UInt8) => (by cases x_ <;> cases l_ <;> rfl : (x_ == !l_.isEmpty) = !(x_ != (l_ != [])))) _ _) | (simp [*]; done)), H', ⟨by first | omega | exact Nat.le_refl _⟩, ⟨by (with_reducible repeat (first | refine blk_drewN ?_ _ | refine blk_drew ?_ | refine blk_alloc ?_ _)); exact BK101.out⟩, ⟨by (with_reducible repeat (first | refine blk_drewN ?_ _ | refine blk_drew ?_ | refine blk_alloc ?_ _)); exact BK102.out⟩, ⟨by repeat (first | (with_reducible first | exact HB.out | apply below_alloc | apply pw_below_drewN | apply below_drew1 | refine below_set ?_ GE101.out | refine below_set ?_ GE102.out) | exact HB.out)⟩⟩
  case rest =>
    clear HC3
    try clear c1
    try clear c2
    try clear p2
    try clear c6
    try clear c6b0
    try clear c6b1
    try clear c6b2
    try clear c7
    try clear c10
    try clear c10b0
    try clear c10b1
    try clear c11
    try clear c11b0
    try clear c11b1
    try clear c12
    try clear c15
    try clear c18
    try clear hcz13_0
    try clear hcz13_1
    try clear hcz13_2
    try clear hcz13_3
    try clear hcz14_0
    try clear hcz14_1
    try clear hcz14_2
    try clear hcz14_3
    try clear hcz16_0
    try clear hcz16_1
    try clear hcz16_2
    try clear hcz16_3
    try clear hcz17_0
    try clear hcz17_1
    try clear hcz17_2
    try clear hcz17_3
    try clear hcz19_0
    try clear hcz19_1
    try clear hcz19_2
    try clear hcz19_3
    try clear hcz20_0
    try clear hcz20_1
    try clear hcz20_2
    try clear hcz20_3
    try clear hcz8_0
    try clear hcz8_1
    try clear hcz8_2
    try clear hcz8_3
    try clear hcz9_0
    try clear hcz9_1
    try clear hcz9_2
    try clear hcz9_3
    try clear hfz13_0
    try clear hfz13_1
    try clear hfz13_2
    try clear hfz13_3
    try clear hfz14_0
    try clear hfz14_1
    try clear hfz14_2
    try clear hfz14_3
    try clear hfz16_0
    try clear hfz16_1
    try clear hfz16_2
    try clear hfz16_3
    try clear hfz17_0
    try clear hfz17_1
    try clear hfz17_2
    try clear hfz17_3
    try clear hfz19_0
    try clear hfz19_1
    try clear hfz19_2
    try clear hfz19_3
    try clear hfz20_0
    try clear hfz20_1
    try clear hfz20_2
    try clear hfz20_3
    try clear hfz8_0
    try clear hfz8_1
    try clear hfz8_2
    try clear hfz8_3
    try clear hfz9_0
    try clear hfz9_1
    try clear hfz9_2
    try clear hfz9_3
    obtain ⟨kq, x33_2, rfl, HA, HJ2, BK101, BK102, HB⟩ := hcut
    cases kq with
    | zero => exact absurd HA.out (by simp [pannierlaw12_same.j0])
    | succ kj2 =>
      have H := HA.out
      clear HA
      simp only [pannierlaw12_same.j0] at H
      by_cases c21 : x33_2 = true
      · subst c21
        have H1 : (some false) = some r := by rw [if_pos rfl] at H; exact H
        clear H
        have H := H1
        clear H1
        obtain rfl := Option.some.inj H
        go_wp2
        repeat (go_quiet (fail); try go_wp2)
        go_ret
        exact ⟨by first | rfl | (simp [errW_none, errW_some] <;> rfl) | (simp [*, errW_none, errW_some] <;> rfl), by repeat (first | (with_reducible first | exact HB.out | apply below_alloc | apply pw_below_drewN | apply below_drew1 | refine below_set ?_ GE101.out | refine below_set ?_ GE102.out) | exact HB.out)⟩
      · replace c21 := Bool.eq_false_iff.mpr c21
        subst c21
        have H1 : (pannierlaw12_same.l0 kj2 (l0_0.length : Int) 0 l0_0 a0_1 a0_2 a0_3 l1_0 a1_1 a1_2 a1_3) = some r := by rw [if_neg (show ¬ (false = true) by decide)] at H; exact H
        clear H
        have H := H1
        clear H1
        have H' := Aside0.mk H
        clear H
        have hnb22 := NB101_102.out
        have hnc22 := NB102_101.out
        have hcz23_0 : wc.cell? ⟨gb101, 0, none⟩ = some (.slice A0_0 l0_0.length c0_0) := (blk_cell BK101.out 0).trans rfl
        have hcz23_1 : wc.cell? ⟨gb101, 1, none⟩ = some (.bool a0_1) := (blk_cell BK101.out 1).trans rfl
        have hcz23_2 : wc.cell? ⟨gb101, 2, none⟩ = some (.int .i64 a0_2) := (blk_cell BK101.out 2).trans rfl
        have hcz23_3 : wc.cell? ⟨gb101, 3, none⟩ = some (.int .i64 a0_3) := (blk_cell BK101.out 3).trans rfl
        have hfz23_0 := blk_frozen BK101.out 0
        have hfz23_1 := blk_frozen BK101.out 1
        have hfz23_2 := blk_frozen BK101.out 2
        have hfz23_3 := blk_frozen BK101.out 3
        go_wp2
        repeat (go_quiet (fail); try go_wp2)
        go_loopg [37] kj2 (fun kq v37 w' => ∃ (x37_2 : Int), v37 = .int .i64 x37_2 ∧ Aside0 (pannierlaw12_same.l0 kq (l0_0.length : Int) x37_2 l0_0 a0_1 a0_2 a0_3 l1_0 a1_1 a1_2 a1_3 = some r) ∧ Aside0 (kq ≤ kj2) ∧ Aside0 (w'.heap[gb101]? = some (.cells #[(.slice A0_0 l0_0.length c0_0), .bool a0_1, .int .i64 a0_2, .int .i64 a0_3] 49 (0, 0))) ∧ Aside0 (w'.heap[gb102]? = some (.cells #[(.slice A1_0 l1_0.length c1_0), .bool a1_1, .int .i64 a1_2, .int .i64 a1_3] 49 (0, 0))) ∧ Aside0 (Below w.heap.size w w'))
        case atStart => exact ⟨(0), (by first | rfl | (simp; done) | (simp; exact (fun l_ : List UInt8 => (by cases l_ <;> rfl : l_.isEmpty = !(l_ != []))) _) | (simp; exact (fun (x_ : Bool) (l_ : List UInt8) => (by cases x_ <;> cases l_ <;> rfl : (x_ == !l_.isEmpty) = !(x_ != (l_ != [])))) _ _) | (simp [*]; done)), H', ⟨Nat.le_refl _⟩, ⟨by (with_reducible repeat (first | refine blk_drewN ?_ _ | refine blk_drew ?_ | refine blk_alloc ?_ _)); exact BK101.out⟩, ⟨by (with_reducible repeat (first | refine blk_drewN ?_ _ | refine blk_drew ?_ | refine blk_alloc ?_ _)); exact BK102.out⟩, ⟨by repeat (first | (with_reducible first | exact HB.out | apply below_alloc | apply pw_below_drewN | apply below_drew1 | refine below_set ?_ GE101.out | refine below_set ?_ GE102.out) | exact HB.out)⟩⟩
        case round =>
          clear H'
          try clear c1
          try clear c2
          try clear p2
          try clear c6
          try clear c6b0
          try clear c6b1
          try clear c6b2
          try clear c7
          try clear c10
          try clear c10b0
          try clear c10b1
          try clear c11
          try clear c11b0
          try clear c11b1
          try clear c12
          try clear c15
          try clear c18
          try clear c21
          try clear c22
          try clear hcz13_0
          try clear hcz13_1
          try clear hcz13_2
          try clear hcz13_3
          try clear hcz14_0
          try clear hcz14_1
          try clear hcz14_2
          try clear hcz14_3
          try clear hcz16_0
          try clear hcz16_1
          try clear hcz16_2
          try clear hcz16_3
          try clear hcz17_0
          try clear hcz17_1
          try clear hcz17_2
          try clear hcz17_3
          try clear hcz19_0
          try clear hcz19_1
          try clear hcz19_2
          try clear hcz19_3
          try clear hcz20_0
          try clear hcz20_1
          try clear hcz20_2
          try clear hcz20_3
          try clear hcz23_0
          try clear hcz23_1
          try clear hcz23_2
          try clear hcz23_3
          try clear hcz8_0
          try clear hcz8_1
          try clear hcz8_2
          try clear hcz8_3
          try clear hcz9_0
          try clear hcz9_1
          try clear hcz9_2
          try clear hcz9_3
          try clear hfz13_0
          try clear hfz13_1
          try clear hfz13_2
          try clear hfz13_3
          try clear hfz14_0
          try clear hfz14_1
          try clear hfz14_2
          try clear hfz14_3
          try clear hfz16_0
          try clear hfz16_1
          try clear hfz16_2
          try clear hfz16_3
          try clear hfz17_0
          try clear hfz17_1
          try clear hfz17_2
          try clear hfz17_3
          try clear hfz19_0
          try clear hfz19_1
          try clear hfz19_2
          try clear hfz19_3
          try clear hfz20_0
          try clear hfz20_1
          try clear hfz20_2
          try clear hfz20_3
          try clear hfz23_0
          try clear hfz23_1
          try clear hfz23_2
          try clear hfz23_3
          try clear hfz8_0
          try clear hfz8_1
          try clear hfz8_2
          try clear hfz8_3
          try clear hfz9_0
          try clear hfz9_1
          try clear hfz9_2
          try clear hfz9_3
          try clear p2
          obtain ⟨x37_2, rfl, HA, HK2, BK101, BK102, HB⟩ := hrel
          cases gk with
          | zero => exact absurd HA.out (by simp [pannierlaw12_same.l0])
          | succ k2 =>
            have H := HA.out
            clear HA
            simp only [pannierlaw12_same.l0] at H
            by_cases c24 : x37_2 < (l0_0.length : Int)
            · rw [if_pos c24] at H
              have c24b0 : decide (x37_2 < (l0_0.length : Int)) = true := decide_eq_true c24
              clear c24
              by_cases c25 : 0 ≤ x37_2
              · rw [if_pos c25] at H
                have c25b0 : decide (0 ≤ x37_2) = true := decide_eq_true c25
                clear c25
                by_cases c26 : x37_2 < (l0_0.length : Int)
                · rw [if_pos c26] at H
                  have c26b0 : decide (x37_2 < (l0_0.length : Int)) = true := decide_eq_true c26
                  clear c26
                  by_cases c27 : x37_2 < (l1_0.length : Int)
                  · rw [if_pos c27] at H
                    have c27b0 : decide (x37_2 < (l1_0.length : Int)) = true := decide_eq_true c27
                    clear c27
                    by_cases c28 : ((!((((rd_T57 l0_0 x37_2).f0.f0).toList) == (((rd_T57 l1_0 x37_2).f0.f0).toList)) || (!((((rd_T57 l0_0 x37_2).f0.f1).toList) == (((rd_T57 l1_0 x37_2).f0.f1).toList)) || (!(((rd_T57 l0_0 x37_2).f0.f2) == ((rd_T57 l1_0 x37_2).f0.f2)) || (!(((rd_T57 l0_0 x37_2).f0.f3) == ((rd_T57 l1_0 x37_2).f0.f3)) || (!(((rd_T57 l0_0 x37_2).f0.f4) == ((rd_T57 l1_0 x37_2).f0.f4)) || (!(((rd_T57 l0_0 x37_2).f0.f5) == ((rd_T57 l1_0 x37_2).f0.f5)) || (!(((rd_T57 l0_0 x37_2).f0.f6) == ((rd_T57 l1_0 x37_2).f0.f6)) || (!(((rd_T57 l0_0 x37_2).f0.f7) == ((rd_T57 l1_0 x37_2).f0.f7)) || (!((((rd_T57 l0_0 x37_2).f0.f8).toList) == (((rd_T57 l1_0 x37_2).f0.f8).toList)) || (!((((rd_T57 l0_0 x37_2).f0.f9).toList) == (((rd_T57 l1_0 x37_2).f0.f9).toList)))))))))))) || (!((((rd_T57 l0_0 x37_2).f1).toList) == (((rd_T57 l1_0 x37_2).f1).toList)) || (!(((rd_T57 l0_0 x37_2).f2) == ((rd_T57 l1_0 x37_2).f2)) || (!(((rd_T57 l0_0 x37_2).f3) == ((rd_T57 l1_0 x37_2).f3)))))) = true
                    · rw [if_pos c28] at H
                      have c28b0 : ((!((((rd_T57 l0_0 x37_2).f0.f0).toList) == (((rd_T57 l1_0 x37_2).f0.f0).toList)) || (!((((rd_T57 l0_0 x37_2).f0.f1).toList) == (((rd_T57 l1_0 x37_2).f0.f1).toList)) || (!(((rd_T57 l0_0 x37_2).f0.f2) == ((rd_T57 l1_0 x37_2).f0.f2)) || (!(((rd_T57 l0_0 x37_2).f0.f3) == ((rd_T57 l1_0 x37_2).f0.f3)) || (!(((rd_T57 l0_0 x37_2).f0.f4) == ((rd_T57 l1_0 x37_2).f0.f4)) || (!(((rd_T57 l0_0 x37_2).f0.f5) == ((rd_T57 l1_0 x37_2).f0.f5)) || (!(((rd_T57 l0_0 x37_2).f0.f6) == ((rd_T57 l1_0 x37_2).f0.f6)) || (!(((rd_T57 l0_0 x37_2).f0.f7) == ((rd_T57 l1_0 x37_2).f0.f7)) || (!((((rd_T57 l0_0 x37_2).f0.f8).toList) == (((rd_T57 l1_0 x37_2).f0.f8).toList)) || (!((((rd_T57 l0_0 x37_2).f0.f9).toList) == (((rd_T57 l1_0 x37_2).f0.f9).toList)))))))))))) || (!((((rd_T57 l0_0 x37_2).f1).toList) == (((rd_T57 l1_0 x37_2).f1).toList)) || (!(((rd_T57 l0_0 x37_2).f2) == ((rd_T57 l1_0 x37_2).f2)) || (!(((rd_T57 l0_0 x37_2).f3) == ((rd_T57 l1_0 x37_2).f3)))))) = true := c28
                      clear c28
                      obtain rfl := Option.some.inj H
                      have hnb29 := NB101_102.out
                      have hnc29 := NB102_101.out
                      have hcz30_0 : wr.cell? ⟨gb101, 0, none⟩ = some (.slice A0_0 l0_0.length c0_0) := (blk_cell BK101.out 0).trans rfl
                      have hcz30_1 : wr.cell? ⟨gb101, 1, none⟩ = some (.bool a0_1) := (blk_cell BK101.out 1).trans rfl
                      have hcz30_2 : wr.cell? ⟨gb101, 2, none⟩ = some (.int .i64 a0_2) := (blk_cell BK101.out 2).trans rfl
                      have hcz30_3 : wr.cell? ⟨gb101, 3, none⟩ = some (.int .i64 a0_3) := (blk_cell BK101.out 3).trans rfl
                      have hfz30_0 := blk_frozen BK101.out 0
                      have hfz30_1 := blk_frozen BK101.out 1
                      have hfz30_2 := blk_frozen BK101.out 2
                      have hfz30_3 := blk_frozen BK101.out 3
                      have p103 : 0 ≤ (x37_2 : Int) := of_decide_eq_true (by first | (with_reducible assumption) | assumption)
                      have q103 : x37_2 < (l0_0.length : Int) := of_decide_eq_true (by first | (with_reducible assumption) | assumption)
                      obtain ⟨ad103, e103, hx103_0, hx103_1, hx103_2, hx103_3, hx103_4, hx103_5, hx103_6, hx103_7, hx103_8, hx103_9, hx103_10, hx103_11, hx103_12⟩ := at_T57 HR0_0.out x37_2 p103 q103
                      cases e103
                      replace hx103_0 := (HB.out.cell (World.block_lt_of_cell? w _ hx103_0)).trans hx103_0
                      replace hx103_1 := (HB.out.cell (World.block_lt_of_cell? w _ hx103_1)).trans hx103_1
                      replace hx103_2 := (HB.out.cell (World.block_lt_of_cell? w _ hx103_2)).trans hx103_2
                      replace hx103_3 := (HB.out.cell (World.block_lt_of_cell? w _ hx103_3)).trans hx103_3
                      replace hx103_4 := (HB.out.cell (World.block_lt_of_cell? w _ hx103_4)).trans hx103_4
                      replace hx103_5 := (HB.out.cell (World.block_lt_of_cell? w _ hx103_5)).trans hx103_5
                      replace hx103_6 := (HB.out.cell (World.block_lt_of_cell? w _ hx103_6)).trans hx103_6
                      replace hx103_7 := (HB.out.cell (World.block_lt_of_cell? w _ hx103_7)).trans hx103_7
                      replace hx103_8 := (HB.out.cell (World.block_lt_of_cell? w _ hx103_8)).trans hx103_8
                      replace hx103_9 := (HB.out.cell (World.block_lt_of_cell? w _ hx103_9)).trans hx103_9
                      replace hx103_10 := (HB.out.cell (World.block_lt_of_cell? w _ hx103_10)).trans hx103_10
                      replace hx103_11 := (HB.out.cell (World.block_lt_of_cell? w _ hx103_11)).trans hx103_11
                      replace hx103_12 := (HB.out.cell (World.block_lt_of_cell? w _ hx103_12)).trans hx103_12
                      replace p103 := eq_true p103
                      replace q103 := eq_true q103
                      have hcz31_0 : wr.cell? ⟨gb102, 0, none⟩ = some (.slice A1_0 l1_0.length c1_0) := (blk_cell BK102.out 0).trans rfl
                      have hcz31_1 : wr.cell? ⟨gb102, 1, none⟩ = some (.bool a1_1) := (blk_cell BK102.out 1).trans rfl
                      have hcz31_2 : wr.cell? ⟨gb102, 2, none⟩ = some (.int .i64 a1_2) := (blk_cell BK102.out 2).trans rfl
                      have hcz31_3 : wr.cell? ⟨gb102, 3, none⟩ = some (.int .i64 a1_3) := (blk_cell BK102.out 3).trans rfl
                      have hfz31_0 := blk_frozen BK102.out 0
                      have hfz31_1 := blk_frozen BK102.out 1
                      have hfz31_2 := blk_frozen BK102.out 2
                      have hfz31_3 := blk_frozen BK102.out 3
                      have p104 : 0 ≤ (x37_2 : Int) := of_decide_eq_true (by first | (with_reducible assumption) | assumption)
                      have q104 : x37_2 < (l1_0.length : Int) := of_decide_eq_true (by first | (with_reducible assumption) | assumption)
                      obtain ⟨ad104, e104, hx104_0, hx104_1, hx104_2, hx104_3, hx104_4, hx104_5, hx104_6, hx104_7, hx104_8, hx104_9, hx104_10, hx104_11, hx104_12⟩ := at_T57 HR1_0.out x37_2 p104 q104
                      cases e104
                      replace hx104_0 := (HB.out.cell (World.block_lt_of_cell? w _ hx104_0)).trans hx104_0
                      replace hx104_1 := (HB.out.cell (World.block_lt_of_cell? w _ hx104_1)).trans hx104_1
                      replace hx104_2 := (HB.out.cell (World.block_lt_of_cell? w _ hx104_2)).trans hx104_2
                      replace hx104_3 := (HB.out.cell (World.block_lt_of_cell? w _ hx104_3)).trans hx104_3
                      replace hx104_4 := (HB.out.cell (World.block_lt_of_cell? w _ hx104_4)).trans hx104_4
                      replace hx104_5 := (HB.out.cell (World.block_lt_of_cell? w _ hx104_5)).trans hx104_5
                      replace hx104_6 := (HB.out.cell (World.block_lt_of_cell? w _ hx104_6)).trans hx104_6
                      replace hx104_7 := (HB.out.cell (World.block_lt_of_cell? w _ hx104_7)).trans hx104_7
                      replace hx104_8 := (HB.out.cell (World.block_lt_of_cell? w _ hx104_8)).trans hx104_8
                      replace hx104_9 := (HB.out.cell (World.block_lt_of_cell? w _ hx104_9)).trans hx104_9
                      replace hx104_10 := (HB.out.cell (World.block_lt_of_cell? w _ hx104_10)).trans hx104_10
                      replace hx104_11 := (HB.out.cell (World.block_lt_of_cell? w _ hx104_11)).trans hx104_11
                      replace hx104_12 := (HB.out.cell (World.block_lt_of_cell? w _ hx104_12)).trans hx104_12
                      replace p104 := eq_true p104
                      replace q104 := eq_true q104
                      go_wp2
                      repeat (go_quiet (fail); try go_wp2)
                      go_ret
                      exact ⟨by first | rfl | (simp [errW_none, errW_some] <;> rfl) | (simp [*, errW_none, errW_some] <;> rfl), by repeat (first | (with_reducible first | exact HB.out | apply below_alloc | apply pw_below_drewN | apply below_drew1 | refine below_set ?_ GE101.out | refine below_set ?_ GE102.out) | exact HB.out)⟩
                    · rw [if_neg c28] at H
                      have c28b0 : ((!((((rd_T57 l0_0 x37_2).f0.f0).toList) == (((rd_T57 l1_0 x37_2).f0.f0).toList)) || (!((((rd_T57 l0_0 x37_2).f0.f1).toList) == (((rd_T57 l1_0 x37_2).f0.f1).toList)) || (!(((rd_T57 l0_0 x37_2).f0.f2) == ((rd_T57 l1_0 x37_2).f0.f2)) || (!(((rd_T57 l0_0 x37_2).f0.f3) == ((rd_T57 l1_0 x37_2).f0.f3)) || (!(((rd_T57 l0_0 x37_2).f0.f4) == ((rd_T57 l1_0 x37_2).f0.f4)) || (!(((rd_T57 l0_0 x37_2).f0.f5) == ((rd_T57 l1_0 x37_2).f0.f5)) || (!(((rd_T57 l0_0 x37_2).f0.f6) == ((rd_T57 l1_0 x37_2).f0.f6)) || (!(((rd_T57 l0_0 x37_2).f0.f7) == ((rd_T57 l1_0 x37_2).f0.f7)) || (!((((rd_T57 l0_0 x37_2).f0.f8).toList) == (((rd_T57 l1_0 x37_2).f0.f8).toList)) || (!((((rd_T57 l0_0 x37_2).f0.f9).toList) == (((rd_T57 l1_0 x37_2).f0.f9).toList)))))))))))) || (!((((rd_T57 l0_0 x37_2).f1).toList) == (((rd_T57 l1_0 x37_2).f1).toList)) || (!(((rd_T57 l0_0 x37_2).f2) == ((rd_T57 l1_0 x37_2).f2)) || (!(((rd_T57 l0_0 x37_2).f3) == ((rd_T57 l1_0 x37_2).f3)))))) = false := by simpa using c28
                      clear c28
                      have H' := Aside0.mk H
                      clear H
                      have hnb32 := NB101_102.out
                      have hnc32 := NB102_101.out
                      have hcz33_0 : wr.cell? ⟨gb101, 0, none⟩ = some (.slice A0_0 l0_0.length c0_0) := (blk_cell BK101.out 0).trans rfl
                      have hcz33_1 : wr.cell? ⟨gb101, 1, none⟩ = some (.bool a0_1) := (blk_cell BK101.out 1).trans rfl
                      have hcz33_2 : wr.cell? ⟨gb101, 2, none⟩ = some (.int .i64 a0_2) := (blk_cell BK101.out 2).trans rfl
                      have hcz33_3 : wr.cell? ⟨gb101, 3, none⟩ = some (.int .i64 a0_3) := (blk_cell BK101.out 3).trans rfl
                      have hfz33_0 := blk_frozen BK101.out 0
                      have hfz33_1 := blk_frozen BK101.out 1
                      have hfz33_2 := blk_frozen BK101.out 2
                      have hfz33_3 := blk_frozen BK101.out 3
                      have p103 : 0 ≤ (x37_2 : Int) := of_decide_eq_true (by first | (with_reducible assumption) | assumption)
                      have q103 : x37_2 < (l0_0.length : Int) := of_decide_eq_true (by first | (with_reducible assumption) | assumption)
                      obtain ⟨ad103, e103, hx103_0, hx103_1, hx103_2, hx103_3, hx103_4, hx103_5, hx103_6, hx103_7, hx103_8, hx103_9, hx103_10, hx103_11, hx103_12⟩ := at_T57 HR0_0.out x37_2 p103 q103
                      cases e103
                      replace hx103_0 := (HB.out.cell (World.block_lt_of_cell? w _ hx103_0)).trans hx103_0
                      replace hx103_1 := (HB.out.cell (World.block_lt_of_cell? w _ hx103_1)).trans hx103_1
                      replace hx103_2 := (HB.out.cell (World.block_lt_of_cell? w _ hx103_2)).trans hx103_2
                      replace hx103_3 := (HB.out.cell (World.block_lt_of_cell? w _ hx103_3)).trans hx103_3
                      replace hx103_4 := (HB.out.cell (World.block_lt_of_cell? w _ hx103_4)).trans hx103_4
                      replace hx103_5 := (HB.out.cell (World.block_lt_of_cell? w _ hx103_5)).trans hx103_5
                      replace hx103_6 := (HB.out.cell (World.block_lt_of_cell? w _ hx103_6)).trans hx103_6
                      replace hx103_7 := (HB.out.cell (World.block_lt_of_cell? w _ hx103_7)).trans hx103_7
                      replace hx103_8 := (HB.out.cell (World.block_lt_of_cell? w _ hx103_8)).trans hx103_8
                      replace hx103_9 := (HB.out.cell (World.block_lt_of_cell? w _ hx103_9)).trans hx103_9
                      replace hx103_10 := (HB.out.cell (World.block_lt_of_cell? w _ hx103_10)).trans hx103_10
                      replace hx103_11 := (HB.out.cell (World.block_lt_of_cell? w _ hx103_11)).trans hx103_11
                      replace hx103_12 := (HB.out.cell (World.block_lt_of_cell? w _ hx103_12)).trans hx103_12
                      replace p103 := eq_true p103
                      replace q103 := eq_true q103
                      have hcz34_0 : wr.cell? ⟨gb102, 0, none⟩ = some (.slice A1_0 l1_0.length c1_0) := (blk_cell BK102.out 0).trans rfl
                      have hcz34_1 : wr.cell? ⟨gb102, 1, none⟩ = some (.bool a1_1) := (blk_cell BK102.out 1).trans rfl
                      have hcz34_2 : wr.cell? ⟨gb102, 2, none⟩ = some (.int .i64 a1_2) := (blk_cell BK102.out 2).trans rfl
                      have hcz34_3 : wr.cell? ⟨gb102, 3, none⟩ = some (.int .i64 a1_3) := (blk_cell BK102.out 3).trans rfl
                      have hfz34_0 := blk_frozen BK102.out 0
                      have hfz34_1 := blk_frozen BK102.out 1
                      have hfz34_2 := blk_frozen BK102.out 2
                      have hfz34_3 := blk_frozen BK102.out 3
                      have p104 : 0 ≤ (x37_2 : Int) := of_decide_eq_true (by first | (with_reducible assumption) | assumption)
                      have q104 : x37_2 < (l1_0.length : Int) := of_decide_eq_true (by first | (with_reducible assumption) | assumption)
                      obtain ⟨ad104, e104, hx104_0, hx104_1, hx104_2, hx104_3, hx104_4, hx104_5, hx104_6, hx104_7, hx104_8, hx104_9, hx104_10, hx104_11, hx104_12⟩ := at_T57 HR1_0.out x37_2 p104 q104
                      cases e104
                      replace hx104_0 := (HB.out.cell (World.block_lt_of_cell? w _ hx104_0)).trans hx104_0
                      replace hx104_1 := (HB.out.cell (World.block_lt_of_cell? w _ hx104_1)).trans hx104_1
                      replace hx104_2 := (HB.out.cell (World.block_lt_of_cell? w _ hx104_2)).trans hx104_2
                      replace hx104_3 := (HB.out.cell (World.block_lt_of_cell? w _ hx104_3)).trans hx104_3
                      replace hx104_4 := (HB.out.cell (World.block_lt_of_cell? w _ hx104_4)).trans hx104_4
                      replace hx104_5 := (HB.out.cell (World.block_lt_of_cell? w _ hx104_5)).trans hx104_5
                      replace hx104_6 := (HB.out.cell (World.block_lt_of_cell? w _ hx104_6)).trans hx104_6
                      replace hx104_7 := (HB.out.cell (World.block_lt_of_cell? w _ hx104_7)).trans hx104_7
                      replace hx104_8 := (HB.out.cell (World.block_lt_of_cell? w _ hx104_8)).trans hx104_8
                      replace hx104_9 := (HB.out.cell (World.block_lt_of_cell? w _ hx104_9)).trans hx104_9
                      replace hx104_10 := (HB.out.cell (World.block_lt_of_cell? w _ hx104_10)).trans hx104_10
                      replace hx104_11 := (HB.out.cell (World.block_lt_of_cell? w _ hx104_11)).trans hx104_11
                      replace hx104_12 := (HB.out.cell (World.block_lt_of_cell? w _ hx104_12)).trans hx104_12
                      replace p104 := eq_true p104
                      replace q104 := eq_true q104
                      go_wp2
                      repeat (go_quiet (fail); try go_wp2)
                      go_roundg k2
                      case measure => have := HJ2.out; have := HK2.out; omega
                      case rel => exact ⟨(wrap64 (x37_2 + 1)), (by first | rfl | (simp; done) | (simp; exact (fun l_ : List UInt8 => (by cases l_ <;> rfl : l_.isEmpty = !(l_ != []))) _) | (simp; exact (fun (x_ : Bool) (l_ : List UInt8) => (by cases x_ <;> cases l_ <;> rfl : (x_ == !l_.isEmpty) = !(x_ != (l_ != [])))) _ _) | (simp [*]; done)), H', ⟨by have := HJ2.out; have := HK2.out; omega⟩, ⟨by (with_reducible repeat (first | refine blk_drewN ?_ _ | refine blk_drew ?_ | refine blk_alloc ?_ _)); exact BK101.out⟩, ⟨by (with_reducible repeat (first | refine blk_drewN ?_ _ | refine blk_drew ?_ | refine blk_alloc ?_ _)); exact BK102.out⟩, ⟨by repeat (first | (with_reducible first | exact HB.out | apply below_alloc | apply pw_below_drewN | apply below_drew1 | refine below_set ?_ GE101.out | refine below_set ?_ GE102.out) | exact HB.out)⟩⟩
                  · rw [if_neg c27] at H
                    exact absurd H (by simp)
                · rw [if_neg c26] at H
                  exact absurd H (by simp)
              · rw [if_neg c25] at H
                exact absurd H (by simp)
            · rw [if_neg c24] at H
              have c24b0 : decide (x37_2 < (l0_0.length : Int)) = false := decide_eq_false c24
              clear c24
              obtain rfl := Option.some.inj H
              go_wp2
              repeat (go_quiet (fail); try go_wp2)
              go_ret
              exact ⟨by first | rfl | (simp [errW_none, errW_some] <;> rfl) | (simp [*, errW_none, errW_some] <;> rfl), by repeat (first | (with_reducible first | exact HB.out | apply below_alloc | apply pw_below_drewN | apply below_drew1 | refine below_set ?_ GE101.out | refine below_set ?_ GE102.out) | exact HB.out)⟩

end Go.Proofs.YtpbpfngichfgeaaGreatDoor.PFed
