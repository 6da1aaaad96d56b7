/-
 The walk of AskData: the printed text, its last part walked once, with the row that a text is turned into.
-/
import Derived.Test.YtbkhhmgpfjemcaaDoorAskDExt
namespace Go.Proofs.YtbkhhmgpfjemcaaDoor.PAskD
open Go.RowKit Go.Proofs.YtbkhhmgpfjemcaaDoorW.PrintWords Go.Proofs.YtbkhhmgpfjemcaaDoorW.PrintLast Go.Proofs.YtbkhhmgpfjemcaaDoorW.PrintMore
attribute [local go_sem] max2_int min2_int max_two min_two max_three min_three max_four min_four   -- for this text's walks alone
set_option linter.unusedVariables false
set_option linter.unusedSimpArgs false

/-! ### pannierlaw20_AskData: function 7 -/
mutual
def pannierlaw20_AskData.j0 : Nat → List Int → Int → Int → ByteArray → Bool → Option (Bool)
 | 0, _, _, _, _, _ => none
 | k + 1, x0, x1, x2, x7, x48 => if x48 = true then (some false) else (if (x0.length : Int) = 0 then (pannierlaw20_AskData.j1 k x1 x2 x7 true) else (if x1 < 0 then (pannierlaw20_AskData.j1 k x1 x2 x7 true) else (pannierlaw20_AskData.j1 k x1 x2 x7 (decide (x1 ≥ (wrap64 (2 * (x0.length : Int))))))))
def pannierlaw20_AskData.j1 : Nat → Int → Int → ByteArray → Bool → Option (Bool)
 | 0, _, _, _, _ => none
 | k + 1, x1, x2, x7, x62 => if x62 = true then (some true) else (if 0 ≤ (wrap64 ((x7.size : Int) - 1)) then (if (wrap64 ((x7.size : Int) - 1)) ≤ (x7.size : Int) then ((ask_Decode.f (x7.extract 0 ((wrap64 ((x7.size : Int) - 1)) : Int).toNat)).bind fun bt113 => (if 0 ≤ (wrap64 (9 + x1)) then (if (wrap64 (9 + x1)) < (x7.size : Int) then ((ask_Decode.f (setS x7 (wrap64 (9 + x1)) x2)).bind fun bt123 => (if x2 ≥ 48 then (if x2 ≤ 57 then (if bt113.2.2.2.2.2.2 = 200 then (if ((bt123.2.2.2.2.2.2 == 0) == true) = true then (some true) else (some false)) else (some false)) else (if x2 ≥ 97 then (if bt113.2.2.2.2.2.2 = 200 then (if ((bt123.2.2.2.2.2.2 == 0) == (decide (x2 ≤ 102))) = true then (if x2 ≤ 102 then (some true) else (some (bt123.2.2.2.2.2.2 == 200))) else (some false)) else (some false)) else (if bt113.2.2.2.2.2.2 = 200 then (if ((bt123.2.2.2.2.2.2 == 0) == false) = true then (some (bt123.2.2.2.2.2.2 == 200)) else (some false)) else (some false)))) else (if x2 ≥ 97 then (if bt113.2.2.2.2.2.2 = 200 then (if ((bt123.2.2.2.2.2.2 == 0) == (decide (x2 ≤ 102))) = true then (if x2 ≤ 102 then (some true) else (some (bt123.2.2.2.2.2.2 == 200))) else (some false)) else (some false)) else (if bt113.2.2.2.2.2.2 = 200 then (if ((bt123.2.2.2.2.2.2 == 0) == false) = true then (some (bt123.2.2.2.2.2.2 == 200)) else (some false)) else (some false))))) else (none)) else (none))) else (none)) else (none))
end
def pannierlaw20_AskData.f (k : Nat) (l0 : List Int) (a1 : Int) (a2 : Int) : Option (Bool) := (pannierlaw20_asks.f).bind fun t101 => (if t101 = true then (if (l0.length : Int) > 3000 then (some true) else ((ask_Encode.f 2 1 7 0 (⟨#[]⟩ : ByteArray) l0).bind fun t102 => ((ask_Decode.f t102).bind fun bt103 => (if bt103.2.2.2.2.2.2 = 0 then (if (strOfNums bt103.2.2.2.2.2.1).toList = (strOfNums l0).toList then (if bt103.2.2.1 = 7 then (pannierlaw20_AskData.j0 k l0 a1 a2 t102 (bt103.2.1 != 1)) else (pannierlaw20_AskData.j0 k l0 a1 a2 t102 true)) else (pannierlaw20_AskData.j0 k l0 a1 a2 t102 true)) else (pannierlaw20_AskData.j0 k l0 a1 a2 t102 true))))) else (some false))
theorem pannierlaw20_AskData.mono_l : ∀ k, (∀ y0 y1 y2 y3 y4, LeO (pannierlaw20_AskData.j0 k y0 y1 y2 y3 y4) (pannierlaw20_AskData.j0 (k + 1) y0 y1 y2 y3 y4)) ∧ (∀ y0 y1 y2 y3, LeO (pannierlaw20_AskData.j1 k y0 y1 y2 y3) (pannierlaw20_AskData.j1 (k + 1) y0 y1 y2 y3))
 | 0 => ⟨fun _ _ _ _ _ r h => by simp [pannierlaw20_AskData.j0] at h, fun _ _ _ _ r h => by simp [pannierlaw20_AskData.j1] at h⟩
 | k + 1 => by
  obtain ⟨ih0, ih1⟩ := pannierlaw20_AskData.mono_l k
  refine ⟨?_, ?_⟩
  ·intro y0 y1 y2 y3 y4
   unfold pannierlaw20_AskData.j0
   repeat' first
   | (with_reducible exact ih0 _ _ _ _ _)
   | (with_reducible exact ih1 _ _ _ _)
   | (with_reducible exact LeO.refl _)
   | (with_reducible exact LeO.none _)
   | (with_reducible refine LeO.ite ?_ ?_)
   | (with_reducible refine LeO.bind ?_ (fun _ => ?_))
   | exact ih0 _ _ _ _ _
   | exact ih1 _ _ _ _
   | exact LeO.none _
   | refine LeO.ite ?_ ?_
   | refine LeO.bind ?_ (fun _ => ?_)
  ·intro y0 y1 y2 y3
   unfold pannierlaw20_AskData.j1
   repeat' first
   | (with_reducible exact ih0 _ _ _ _ _)
   | (with_reducible exact ih1 _ _ _ _)
   | (with_reducible exact LeO.refl _)
   | (with_reducible exact LeO.none _)
   | (with_reducible refine LeO.ite ?_ ?_)
   | (with_reducible refine LeO.bind ?_ (fun _ => ?_))
   | exact ih0 _ _ _ _ _
   | exact ih1 _ _ _ _
   | exact LeO.none _
   | refine LeO.ite ?_ ?_
   | refine LeO.bind ?_ (fun _ => ?_)
theorem pannierlaw20_AskData.mono : ∀ a0 a1 a2 k, LeO (pannierlaw20_AskData.f k a0 a1 a2) (pannierlaw20_AskData.f (k + 1) a0 a1 a2) := by
 intro a0 a1 a2 k
 obtain ⟨ih0, ih1⟩ := pannierlaw20_AskData.mono_l k
 unfold pannierlaw20_AskData.f
 repeat' first
   | (with_reducible exact ih0 _ _ _ _ _)
   | (with_reducible exact ih1 _ _ _ _)
   | (with_reducible exact LeO.refl _)
   | (with_reducible exact LeO.none _)
   | (with_reducible refine LeO.ite ?_ ?_)
   | (with_reducible refine LeO.bind ?_ (fun _ => ?_))
   | exact ih0 _ _ _ _ _
   | exact ih1 _ _ _ _
   | exact LeO.none _
   | refine LeO.ite ?_ ?_
   | refine LeO.bind ?_ (fun _ => ?_)
set_option maxHeartbeats 8000000 in
set_option maxRecDepth 100000 in
theorem pannierlaw20_AskData.calls (k : Nat) (A0 : Option Addr) (c0 : Nat) (l0 : List Int) (a1 : Int) (a2 : Int) (r : Bool) (w : World) (hr0 : Kd.C (Kd.int .u8) w A0 l0.length l0) (hc0 : l0.length ≤ c0) (hE_ : EnvE w) (h : pannierlaw20_AskData.f k l0 a1 a2 = some r) :
  Calls Tryd.prog 7 #[.slice A0 l0.length c0, .int .i64 a1, .int .u8 a2] w fun e w' => e = .returned (.bool r) ∧ Below w.heap.size w w' := by
 have HE_ := Aside0.mk hE_
 clear hE_
 have hu25 := Tryd.underlying25
 have HR0 := Aside0.mk hr0
 have HC0 := Aside0.mk hc0
 clear hr0 hc0
 have HB := Aside0.mk (Below.refl w.heap.size w)
 have H : ((pannierlaw20_asks.f).bind fun t101 => (if t101 = true then (if (l0.length : Int) > 3000 then (some true) else ((ask_Encode.f 2 1 7 0 (⟨#[]⟩ : ByteArray) l0).bind fun t102 => ((ask_Decode.f t102).bind fun bt103 => (if bt103.2.2.2.2.2.2 = 0 then (if (strOfNums bt103.2.2.2.2.2.1).toList = (strOfNums l0).toList then (if bt103.2.2.1 = 7 then (pannierlaw20_AskData.j0 k l0 a1 a2 t102 (bt103.2.1 != 1)) else (pannierlaw20_AskData.j0 k l0 a1 a2 t102 true)) else (pannierlaw20_AskData.j0 k l0 a1 a2 t102 true)) else (pannierlaw20_AskData.j0 k l0 a1 a2 t102 true))))) else (some false))) = some r := h
 clear h
 replace H := Option.bind_eq_some_iff.mp H
 obtain ⟨t101, A40, H⟩ := H
 replace H : (if t101 = true then (if (l0.length : Int) > 3000 then (some true) else ((ask_Encode.f 2 1 7 0 (⟨#[]⟩ : ByteArray) l0).bind fun t102 => ((ask_Decode.f t102).bind fun bt103 => (if bt103.2.2.2.2.2.2 = 0 then (if (strOfNums bt103.2.2.2.2.2.1).toList = (strOfNums l0).toList then (if bt103.2.2.1 = 7 then (pannierlaw20_AskData.j0 k l0 a1 a2 t102 (bt103.2.1 != 1)) else (pannierlaw20_AskData.j0 k l0 a1 a2 t102 true)) else (pannierlaw20_AskData.j0 k l0 a1 a2 t102 true)) else (pannierlaw20_AskData.j0 k l0 a1 a2 t102 true))))) else (some false)) = some r := H
 have A4 := Aside0.mk A40
 clear A40
 by_cases c5 : t101 = true
 ·subst c5
  have H1 : (if (l0.length : Int) > 3000 then (some true) else ((ask_Encode.f 2 1 7 0 (⟨#[]⟩ : ByteArray) l0).bind fun t102 => ((ask_Decode.f t102).bind fun bt103 => (if bt103.2.2.2.2.2.2 = 0 then (if (strOfNums bt103.2.2.2.2.2.1).toList = (strOfNums l0).toList then (if bt103.2.2.1 = 7 then (pannierlaw20_AskData.j0 k l0 a1 a2 t102 (bt103.2.1 != 1)) else (pannierlaw20_AskData.j0 k l0 a1 a2 t102 true)) else (pannierlaw20_AskData.j0 k l0 a1 a2 t102 true)) else (pannierlaw20_AskData.j0 k l0 a1 a2 t102 true))))) = some r := by rw [if_pos rfl] at H; exact H
  clear H
  have H := H1
  clear H1
  by_cases c6 : (l0.length : Int) > 3000
  ·rw [if_pos c6] at H
   have c6b0 : decide (3000 < (l0.length : Int)) = true := decide_eq_true c6
   have c6b1 : decide (3000 < l0.length) = true := decide_eq_true (by omega)
   clear c6
   obtain rfl := Option.some.inj H
   go_enter Tryd.func7, Tryd.ntmps7
   go_wp2_with (first | ((with_reducible refine gate_callee (f := 9) rfl ?_); refine goesL_ (some 16) rfl rfl Tryd.func9 (by kernel_rfl) rfl #[] rfl (by (try simp only [List.map_toArray, List.map_cons, List.map_nil]); first | done | rfl | (simp only [List.length_drop, List.length_take]; rfl)) ?_; (with_reducible refine (pannierlaw20_asks.calls  true _ ?side1 A4.out).mono ?_); (case side1 => exact HE_.out.below (by repeat (first | (with_reducible first | exact HB.out | apply below_alloc | apply pw_below_drewN | apply below_drew1) | exact HB.out))); rintro e w7 ⟨rfl, hb⟩; refine ⟨_, rfl, ?_⟩; have n0_ := Aside0.mk (below_step (by repeat (first | (with_reducible first | exact HB.out | apply below_alloc | apply pw_below_drewN | apply below_drew1) | exact HB.out)) hb); clear HB; have HB := n0_; clear n0_; (try clear hb); (try clear hb2); (try clear hk); (try clear hi)))
   go_ret
   exact ⟨by first | rfl | (simp [errW_none, errW_some] <;> rfl) | (simp [*, errW_none, errW_some] <;> rfl), by repeat (first | (with_reducible first | exact HB.out | apply below_alloc | apply pw_below_drewN | apply below_drew1) | exact HB.out)⟩
  ·rw [if_neg c6] at H
   have c6b0 : decide (3000 < (l0.length : Int)) = false := decide_eq_false c6
   have c6b1 : decide (3000 < l0.length) = false := decide_eq_false (by omega)
   clear c6
   replace H := Option.bind_eq_some_iff.mp H
   obtain ⟨t102, A80, H⟩ := H
   replace H : ((ask_Decode.f t102).bind fun bt103 => (if bt103.2.2.2.2.2.2 = 0 then (if (strOfNums bt103.2.2.2.2.2.1).toList = (strOfNums l0).toList then (if bt103.2.2.1 = 7 then (pannierlaw20_AskData.j0 k l0 a1 a2 t102 (bt103.2.1 != 1)) else (pannierlaw20_AskData.j0 k l0 a1 a2 t102 true)) else (pannierlaw20_AskData.j0 k l0 a1 a2 t102 true)) else (pannierlaw20_AskData.j0 k l0 a1 a2 t102 true))) = some r := H
   have A8 := Aside0.mk A80
   clear A80
   replace H := Option.bind_eq_some_iff.mp H
   obtain ⟨⟨t103, t104, t105, t106, t107, t108, t111⟩, A90, H⟩ := H
   replace H : (if t111 = 0 then (if (strOfNums t108).toList = (strOfNums l0).toList then (if t105 = 7 then (pannierlaw20_AskData.j0 k l0 a1 a2 t102 (t104 != 1)) else (pannierlaw20_AskData.j0 k l0 a1 a2 t102 true)) else (pannierlaw20_AskData.j0 k l0 a1 a2 t102 true)) else (pannierlaw20_AskData.j0 k l0 a1 a2 t102 true)) = some r := H
   have A9 := Aside0.mk A90
   clear A90
   have HC10 := Aside0.mk H
   clear H
   go_enter Tryd.func7, Tryd.ntmps7
   go_upto_region 7 with (first | ((with_reducible refine gate_callee (f := 9) rfl ?_); refine goesL_ (some 16) rfl rfl Tryd.func9 (by kernel_rfl) rfl #[] rfl (by (try simp only [List.map_toArray, List.map_cons, List.map_nil]); first | done | rfl | (simp only [List.length_drop, List.length_take]; rfl)) ?_; (with_reducible refine (pannierlaw20_asks.calls  true _ ?side1 A4.out).mono ?_); (case side1 => exact HE_.out.below (by repeat (first | (with_reducible first | exact HB.out | apply below_alloc | apply pw_below_drewN | apply below_drew1) | exact HB.out))); rintro e w11 ⟨rfl, hb⟩; refine ⟨_, rfl, ?_⟩; have n0_ := Aside0.mk (below_step (by repeat (first | (with_reducible first | exact HB.out | apply below_alloc | apply pw_below_drewN | apply below_drew1) | exact HB.out)) hb); clear HB; have HB := n0_; clear n0_; (try clear hb); (try clear hb2); (try clear hk); (try clear hi)) | ((with_reducible refine gate_callee (f := 13) rfl ?_); refine goesL_ (some 23) rfl rfl Tryd.func13 (by kernel_rfl) rfl #[.agg #[.int .i64 2, .int .i64 1, .int .i64 7, .int .i64 0, .string (⟨#[]⟩ : ByteArray), .slice A0 l0.length c0]] rfl (by (try simp only [List.map_toArray, List.map_cons, List.map_nil]); first | done | rfl | (simp only [List.length_drop, List.length_take]; rfl)) ?_; (with_reducible refine (ask_Encode.calls 2 1 7 0 (⟨#[]⟩ : ByteArray) _ _ l0 t102 _ ?side1 ?side2 ?side3 A8.out).mono ?_); (case side1 => repeat (first | exact (Kd.C_below HR0.out HB.out) | (with_reducible refine Kd.C_alloc ?_ _) | (with_reducible refine Kd.C_drewN ?_ _) | (with_reducible refine Kd.C_drew ?_))); (case side2 => exact HC0.out); (case side3 => exact HE_.out.below (by repeat (first | (with_reducible first | exact HB.out | apply below_alloc | apply pw_below_drewN | apply below_drew1) | exact HB.out))); rintro e w12 ⟨rfl, hb⟩; refine ⟨_, rfl, ?_⟩; have n0_ := Aside0.mk (below_step (by repeat (first | (with_reducible first | exact HB.out | apply below_alloc | apply pw_below_drewN | apply below_drew1) | exact HB.out)) hb); clear HB; have HB := n0_; clear n0_; (try clear hb); (try clear hb2); (try clear hk); (try clear hi)) | ((with_reducible refine gate_callee (f := 10) rfl ?_); refine goesL_ (some 26) rfl rfl Tryd.func10 (by kernel_rfl) rfl #[.string t102] rfl (by (try simp only [List.map_toArray, List.map_cons, List.map_nil]); first | done | rfl | (simp only [List.length_drop, List.length_take]; rfl)) ?_; (with_reducible refine (ask_Decode.calls t102 t103 t104 t105 t106 t107 t108 t111 _ ?side1 A9.out).mono ?_); (case side1 => exact HE_.out.below (by repeat (first | (with_reducible first | exact HB.out | apply below_alloc | apply pw_below_drewN | apply below_drew1) | exact HB.out))); rintro e w13 ⟨v109, rfl, ho0, hb⟩; refine ⟨_, rfl, ?_⟩; have n0_ := Aside0.mk (Kd.R_lower ho0 (below_size (by repeat (first | (with_reducible first | exact HB.out | apply below_alloc | apply pw_below_drewN | apply below_drew1) | exact HB.out)))); have n1_ := Aside0.mk (below_step (by repeat (first | (with_reducible first | exact HB.out | apply below_alloc | apply pw_below_drewN | apply below_drew1) | exact HB.out)) hb); clear HB; have HO110 := n0_; have HB := n1_; clear n0_ n1_; (try clear hb); (try clear hb2); (try clear hk); (try clear hi); (try clear ho0)) | ((with_reducible refine gate_dst (N := 8) rfl ?_); (try (refine gate_guard (by rfl) ?_; dsimp only)); refine box_event ?hg (N := 8) ?hd (cs := #[.int .i64 0, .int .i64 0, .int .i64 0, .int .i64 0, .string (⟨#[]⟩ : ByteArray), .slice none 0 0]) (t := 25) ?hr ?_; (case hd => rfl); (case hg => rfl); (case hr => first | (go_simp; done) | (go_simp; rfl)); intro gb112 hg w14 hbox hb; have n0_ := Aside0.mk (Kd.R_below (by (with_reducible repeat (first | apply Kd.R_alloc | apply Kd.R_drewN | apply Kd.R_drew)); exact HO110.out) hb); have n1_ := Aside0.mk (below_step (by repeat (first | (with_reducible first | exact HB.out | apply below_alloc | apply pw_below_drewN | apply below_drew1) | exact HB.out)) hb); have n2_ := Aside0.mk (hbox); have n3_ := Aside0.mk ((by rw [hg]; exact (below_size (by repeat (first | (with_reducible first | exact HB.out | apply below_alloc | apply pw_below_drewN | apply below_drew1) | exact HB.out))) : w.heap.size ≤ gb112)); have n4_ := Aside0.mk ((by rw [hg]; exact (below_size (by repeat (first | (with_reducible first | exact HB.out | apply below_alloc | apply pw_below_drewN | apply below_drew1) | exact HB.out))) : w.heap.size ≤ gb112)); clear HO110; clear HB; have HO110 := n0_; have HB := n1_; have BK112 := n2_; have GW112 := n3_; have GE112 := n4_; clear n0_ n1_ n2_ n3_ n4_; clear hb hbox hg; have hcz15_0 : w14.cell? ⟨gb112, 0, none⟩ = some (.int .i64 0) := (blk_cell BK112.out 0).trans rfl; have hcz15_1 : w14.cell? ⟨gb112, 1, none⟩ = some (.int .i64 0) := (blk_cell BK112.out 1).trans rfl; have hcz15_2 : w14.cell? ⟨gb112, 2, none⟩ = some (.int .i64 0) := (blk_cell BK112.out 2).trans rfl; have hcz15_3 : w14.cell? ⟨gb112, 3, none⟩ = some (.int .i64 0) := (blk_cell BK112.out 3).trans rfl; have hcz15_4 : w14.cell? ⟨gb112, 4, none⟩ = some (.string (⟨#[]⟩ : ByteArray)) := (blk_cell BK112.out 4).trans rfl; have hcz15_5 : w14.cell? ⟨gb112, 5, none⟩ = some (.slice none 0 0) := (blk_cell BK112.out 5).trans rfl; have hfz15_0 := blk_frozen BK112.out 0; have hfz15_1 := blk_frozen BK112.out 1; have hfz15_2 := blk_frozen BK112.out 2; have hfz15_3 := blk_frozen BK112.out 3; have hfz15_4 := blk_frozen BK112.out 4; have hfz15_5 := blk_frozen BK112.out 5; obtain ⟨Ao16, co16, eo16⟩ := Kd.R_slice HO110.out; subst eo16))
   (try simp only [Act.put, List.setIfInBounds_toArray, List.set_cons_zero, List.set_cons_succ])
   go_cut [48] (fun v48 wc => ∃ (kq : Nat) (x48_9 : Bool), v48 = .bool x48_9 ∧ Aside0 (pannierlaw20_AskData.j0 kq l0 a1 a2 t102 x48_9 = some r) ∧ Aside0 (kq ≤ k) ∧ Aside0 (Kd.R (Kd.int .u8) 5 wc w.heap.size (fun _ => True) (.slice Ao16 t108.length co16) t108) ∧ Aside0 (wc.heap[gb112]? = some (.cells #[.int .i64 t103, .int .i64 t104, .int .i64 t105, .int .i64 t106, .string t107, (.slice Ao16 t108.length co16)] 25 (0, 0))) ∧ Aside0 (Below w.heap.size w wc))
   case first =>
    have H := HC10.out
    clear HC10
    by_cases c17 : t111 = 0
    ·rw [if_pos c17] at H
     have c17b0 : (t111 == 0) = true := beq_iff_eq.mpr c17
     have c17b1 : (t111 != 0) = false := bne_eq_false_iff_eq.mpr c17
     clear c17
     (first | rw [c17b0] | (simp only [i64_w, i32_w]; rw [c17b0]) | skip)
     by_cases c18 : (strOfNums t108).toList = (strOfNums l0).toList
     ·rw [if_pos c18] at H
      have c18b0 : ((strOfNums t108).toList == (strOfNums l0).toList) = true := beq_iff_eq.mpr c18
      have c18b1 : ((strOfNums t108).toList != (strOfNums l0).toList) = false := bne_eq_false_iff_eq.mpr c18
      clear c18
      by_cases c19 : t105 = 7
      ·rw [if_pos c19] at H
       have c19b0 : (t105 == 7) = true := beq_iff_eq.mpr c19
       have c19b1 : (t105 != 7) = false := bne_eq_false_iff_eq.mpr c19
       clear c19
       have H' := Aside0.mk H
       clear H
       have hcz20_0 : w14.cell? ⟨gb112, 0, none⟩ = some (.int .i64 0) := (blk_cell BK112.out 0).trans rfl
       have hcz20_1 : w14.cell? ⟨gb112, 1, none⟩ = some (.int .i64 0) := (blk_cell BK112.out 1).trans rfl
       have hcz20_2 : w14.cell? ⟨gb112, 2, none⟩ = some (.int .i64 0) := (blk_cell BK112.out 2).trans rfl
       have hcz20_3 : w14.cell? ⟨gb112, 3, none⟩ = some (.int .i64 0) := (blk_cell BK112.out 3).trans rfl
       have hcz20_4 : w14.cell? ⟨gb112, 4, none⟩ = some (.string (⟨#[]⟩ : ByteArray)) := (blk_cell BK112.out 4).trans rfl
       have hcz20_5 : w14.cell? ⟨gb112, 5, none⟩ = some (.slice none 0 0) := (blk_cell BK112.out 5).trans rfl
       have hfz20_0 := blk_frozen BK112.out 0
       have hfz20_1 := blk_frozen BK112.out 1
       have hfz20_2 := blk_frozen BK112.out 2
       have hfz20_3 := blk_frozen BK112.out 3
       have hfz20_4 := blk_frozen BK112.out 4
       have hfz20_5 := blk_frozen BK112.out 5
       have hcv21 := own_string (P := Tryd.prog) Tryd.underlying23 Tryd.underlying5 Tryd.underlying9 (Kd.own_of_R HO110.out)
       have hcv22 := r_string_d (P := Tryd.prog) Tryd.underlying23 Tryd.underlying5 Tryd.underlying9 HO110.out
       (try (have hcv23 := fun u0_ u1_ u2_ u3_ u4_ u5_ => own_string (P := Tryd.prog) Tryd.underlying23 Tryd.underlying5 Tryd.underlying9 (ownsRow_setCell_other (a := ⟨gb112, 5, none⟩) (ownsRow_setCell_other (a := ⟨gb112, 4, none⟩) (ownsRow_setCell_other (a := ⟨gb112, 3, none⟩) (ownsRow_setCell_other (a := ⟨gb112, 2, none⟩) (ownsRow_setCell_other (a := ⟨gb112, 1, none⟩) (ownsRow_setCell_other (a := ⟨gb112, 0, none⟩) (Kd.own_of_R HO110.out) (Ne.symm (Kd.R_ne HO110.out BK112.out (by decide))) u0_) (Ne.symm (Kd.R_ne HO110.out BK112.out (by decide))) u1_) (Ne.symm (Kd.R_ne HO110.out BK112.out (by decide))) u2_) (Ne.symm (Kd.R_ne HO110.out BK112.out (by decide))) u3_) (Ne.symm (Kd.R_ne HO110.out BK112.out (by decide))) u4_) (Ne.symm (Kd.R_ne HO110.out BK112.out (by decide))) u5_)))
       have hcv24 := Kd.C_string (P := Tryd.prog) (A := A0) (c := c0) Tryd.underlying23 Tryd.underlying5 Tryd.underlying9 (Kd.C_below HR0.out HB.out)
       have hcvP := fun u0_ u1_ u2_ u3_ u4_ u5_ => Kd.C_string (P := Tryd.prog) (A := A0) (c := c0) Tryd.underlying23 Tryd.underlying5 Tryd.underlying9 (Kd.C_below (w1 := (World.setCell (World.setCell (World.setCell (World.setCell (World.setCell (World.setCell w14 ⟨gb112, 0, none⟩ u0_) ⟨gb112, 1, none⟩ u1_) ⟨gb112, 2, none⟩ u2_) ⟨gb112, 3, none⟩ u3_) ⟨gb112, 4, none⟩ u4_) ⟨gb112, 5, none⟩ u5_)) HR0.out (by repeat (first | (with_reducible first | exact HB.out | apply below_alloc | apply pw_below_drewN | apply below_drew1 | refine below_set ?_ GE112.out) | exact HB.out)))
       go_wp2
       go_meet
       case rel => exact ⟨_, ((t104 != 1)), (by first | rfl | (simp; done) | (simp; exact (fun l_ : List UInt8 => (by cases l_ <;> rfl : l_.isEmpty = !(l_ != []))) _) | (simp [*]; done)), H', ⟨by first | omega | exact Nat.le_refl _⟩, ⟨by (with_reducible repeat (first | apply Kd.R_alloc | apply Kd.R_drewN | apply Kd.R_drew)); exact Kd.R_mono (Kd.R_far (p := ⟨gb112, 5, none⟩) (Kd.R_far (p := ⟨gb112, 4, none⟩) (Kd.R_far (p := ⟨gb112, 3, none⟩) (Kd.R_far (p := ⟨gb112, 2, none⟩) (Kd.R_far (p := ⟨gb112, 1, none⟩) (Kd.R_far (p := ⟨gb112, 0, none⟩) (Kd.R_types HO110.out BK112.out (by decide)) (fun _ hk => hk.2) (.int .i64 t103)) (fun _ hk => hk.2) (.int .i64 t104)) (fun _ hk => hk.2) (.int .i64 t105)) (fun _ hk => hk.2) (.int .i64 t106)) (fun _ hk => hk.2) (.string t107)) (fun _ hk => hk.2) (.slice Ao16 t108.length co16)) (fun _ hk => trivial)⟩, ⟨by (with_reducible repeat (first | refine blk_drewN ?_ _ | refine blk_drew ?_ | refine blk_alloc ?_ _)); refine blk_put (cs := #[.int .i64 t103, .int .i64 t104, .int .i64 t105, .int .i64 t106, .string t107, .slice none 0 0]) ?_ 5 _ rfl; (with_reducible repeat (first | refine blk_drewN ?_ _ | refine blk_drew ?_ | refine blk_alloc ?_ _)); refine blk_put (cs := #[.int .i64 t103, .int .i64 t104, .int .i64 t105, .int .i64 t106, .string (⟨#[]⟩ : ByteArray), .slice none 0 0]) ?_ 4 _ rfl; (with_reducible repeat (first | refine blk_drewN ?_ _ | refine blk_drew ?_ | refine blk_alloc ?_ _)); refine blk_put (cs := #[.int .i64 t103, .int .i64 t104, .int .i64 t105, .int .i64 0, .string (⟨#[]⟩ : ByteArray), .slice none 0 0]) ?_ 3 _ rfl; (with_reducible repeat (first | refine blk_drewN ?_ _ | refine blk_drew ?_ | refine blk_alloc ?_ _)); refine blk_put (cs := #[.int .i64 t103, .int .i64 t104, .int .i64 0, .int .i64 0, .string (⟨#[]⟩ : ByteArray), .slice none 0 0]) ?_ 2 _ rfl; (with_reducible repeat (first | refine blk_drewN ?_ _ | refine blk_drew ?_ | refine blk_alloc ?_ _)); refine blk_put (cs := #[.int .i64 t103, .int .i64 0, .int .i64 0, .int .i64 0, .string (⟨#[]⟩ : ByteArray), .slice none 0 0]) ?_ 1 _ rfl; (with_reducible repeat (first | refine blk_drewN ?_ _ | refine blk_drew ?_ | refine blk_alloc ?_ _)); refine blk_put (cs := #[.int .i64 0, .int .i64 0, .int .i64 0, .int .i64 0, .string (⟨#[]⟩ : ByteArray), .slice none 0 0]) ?_ 0 _ rfl; (with_reducible repeat (first | refine blk_drewN ?_ _ | refine blk_drew ?_ | refine blk_alloc ?_ _)); exact BK112.out⟩, ⟨by repeat (first | (with_reducible first | exact HB.out | apply below_alloc | apply pw_below_drewN | apply below_drew1 | refine below_set ?_ GE112.out) | exact HB.out)⟩⟩
      ·rw [if_neg c19] at H
       have c19b0 : (t105 == 7) = false := beq_eq_false_iff_ne.mpr c19
       have c19b1 : (t105 != 7) = true := bne_iff_ne.mpr c19
       have H' := Aside0.mk H
       clear H
       have hcz25_0 : w14.cell? ⟨gb112, 0, none⟩ = some (.int .i64 0) := (blk_cell BK112.out 0).trans rfl
       have hcz25_1 : w14.cell? ⟨gb112, 1, none⟩ = some (.int .i64 0) := (blk_cell BK112.out 1).trans rfl
       have hcz25_2 : w14.cell? ⟨gb112, 2, none⟩ = some (.int .i64 0) := (blk_cell BK112.out 2).trans rfl
       have hcz25_3 : w14.cell? ⟨gb112, 3, none⟩ = some (.int .i64 0) := (blk_cell BK112.out 3).trans rfl
       have hcz25_4 : w14.cell? ⟨gb112, 4, none⟩ = some (.string (⟨#[]⟩ : ByteArray)) := (blk_cell BK112.out 4).trans rfl
       have hcz25_5 : w14.cell? ⟨gb112, 5, none⟩ = some (.slice none 0 0) := (blk_cell BK112.out 5).trans rfl
       have hfz25_0 := blk_frozen BK112.out 0
       have hfz25_1 := blk_frozen BK112.out 1
       have hfz25_2 := blk_frozen BK112.out 2
       have hfz25_3 := blk_frozen BK112.out 3
       have hfz25_4 := blk_frozen BK112.out 4
       have hfz25_5 := blk_frozen BK112.out 5
       have hcv26 := own_string (P := Tryd.prog) Tryd.underlying23 Tryd.underlying5 Tryd.underlying9 (Kd.own_of_R HO110.out)
       have hcv27 := r_string_d (P := Tryd.prog) Tryd.underlying23 Tryd.underlying5 Tryd.underlying9 HO110.out
       (try (have hcv28 := fun u0_ u1_ u2_ u3_ u4_ u5_ => own_string (P := Tryd.prog) Tryd.underlying23 Tryd.underlying5 Tryd.underlying9 (ownsRow_setCell_other (a := ⟨gb112, 5, none⟩) (ownsRow_setCell_other (a := ⟨gb112, 4, none⟩) (ownsRow_setCell_other (a := ⟨gb112, 3, none⟩) (ownsRow_setCell_other (a := ⟨gb112, 2, none⟩) (ownsRow_setCell_other (a := ⟨gb112, 1, none⟩) (ownsRow_setCell_other (a := ⟨gb112, 0, none⟩) (Kd.own_of_R HO110.out) (Ne.symm (Kd.R_ne HO110.out BK112.out (by decide))) u0_) (Ne.symm (Kd.R_ne HO110.out BK112.out (by decide))) u1_) (Ne.symm (Kd.R_ne HO110.out BK112.out (by decide))) u2_) (Ne.symm (Kd.R_ne HO110.out BK112.out (by decide))) u3_) (Ne.symm (Kd.R_ne HO110.out BK112.out (by decide))) u4_) (Ne.symm (Kd.R_ne HO110.out BK112.out (by decide))) u5_)))
       have hcv29 := Kd.C_string (P := Tryd.prog) (A := A0) (c := c0) Tryd.underlying23 Tryd.underlying5 Tryd.underlying9 (Kd.C_below HR0.out HB.out)
       have hcvP := fun u0_ u1_ u2_ u3_ u4_ u5_ => Kd.C_string (P := Tryd.prog) (A := A0) (c := c0) Tryd.underlying23 Tryd.underlying5 Tryd.underlying9 (Kd.C_below (w1 := (World.setCell (World.setCell (World.setCell (World.setCell (World.setCell (World.setCell w14 ⟨gb112, 0, none⟩ u0_) ⟨gb112, 1, none⟩ u1_) ⟨gb112, 2, none⟩ u2_) ⟨gb112, 3, none⟩ u3_) ⟨gb112, 4, none⟩ u4_) ⟨gb112, 5, none⟩ u5_)) HR0.out (by repeat (first | (with_reducible first | exact HB.out | apply below_alloc | apply pw_below_drewN | apply below_drew1 | refine below_set ?_ GE112.out) | exact HB.out)))
       go_wp2
       go_meet
       case rel => exact ⟨_, (true), (by first | rfl | (simp; done) | (simp; exact (fun l_ : List UInt8 => (by cases l_ <;> rfl : l_.isEmpty = !(l_ != []))) _) | (simp [*]; done)), H', ⟨by first | omega | exact Nat.le_refl _⟩, ⟨by (with_reducible repeat (first | apply Kd.R_alloc | apply Kd.R_drewN | apply Kd.R_drew)); exact Kd.R_mono (Kd.R_far (p := ⟨gb112, 5, none⟩) (Kd.R_far (p := ⟨gb112, 4, none⟩) (Kd.R_far (p := ⟨gb112, 3, none⟩) (Kd.R_far (p := ⟨gb112, 2, none⟩) (Kd.R_far (p := ⟨gb112, 1, none⟩) (Kd.R_far (p := ⟨gb112, 0, none⟩) (Kd.R_types HO110.out BK112.out (by decide)) (fun _ hk => hk.2) (.int .i64 t103)) (fun _ hk => hk.2) (.int .i64 t104)) (fun _ hk => hk.2) (.int .i64 t105)) (fun _ hk => hk.2) (.int .i64 t106)) (fun _ hk => hk.2) (.string t107)) (fun _ hk => hk.2) (.slice Ao16 t108.length co16)) (fun _ hk => trivial)⟩, ⟨by (with_reducible repeat (first | refine blk_drewN ?_ _ | refine blk_drew ?_ | refine blk_alloc ?_ _)); refine blk_put (cs := #[.int .i64 t103, .int .i64 t104, .int .i64 t105, .int .i64 t106, .string t107, .slice none 0 0]) ?_ 5 _ rfl; (with_reducible repeat (first | refine blk_drewN ?_ _ | refine blk_drew ?_ | refine blk_alloc ?_ _)); refine blk_put (cs := #[.int .i64 t103, .int .i64 t104, .int .i64 t105, .int .i64 t106, .string (⟨#[]⟩ : ByteArray), .slice none 0 0]) ?_ 4 _ rfl; (with_reducible repeat (first | refine blk_drewN ?_ _ | refine blk_drew ?_ | refine blk_alloc ?_ _)); refine blk_put (cs := #[.int .i64 t103, .int .i64 t104, .int .i64 t105, .int .i64 0, .string (⟨#[]⟩ : ByteArray), .slice none 0 0]) ?_ 3 _ rfl; (with_reducible repeat (first | refine blk_drewN ?_ _ | refine blk_drew ?_ | refine blk_alloc ?_ _)); refine blk_put (cs := #[.int .i64 t103, .int .i64 t104, .int .i64 0, .int .i64 0, .string (⟨#[]⟩ : ByteArray), .slice none 0 0]) ?_ 2 _ rfl; (with_reducible repeat (first | refine blk_drewN ?_ _ | refine blk_drew ?_ | refine blk_alloc ?_ _)); refine blk_put (cs := #[.int .i64 t103, .int .i64 0, .int .i64 0, .int .i64 0, .string (⟨#[]⟩ : ByteArray), .slice none 0 0]) ?_ 1 _ rfl; (with_reducible repeat (first | refine blk_drewN ?_ _ | refine blk_drew ?_ | refine blk_alloc ?_ _)); refine blk_put (cs := #[.int .i64 0, .int .i64 0, .int .i64 0, .int .i64 0, .string (⟨#[]⟩ : ByteArray), .slice none 0 0]) ?_ 0 _ rfl; (with_reducible repeat (first | refine blk_drewN ?_ _ | refine blk_drew ?_ | refine blk_alloc ?_ _)); exact BK112.out⟩, ⟨by repeat (first | (with_reducible first | exact HB.out | apply below_alloc | apply pw_below_drewN | apply below_drew1 | refine below_set ?_ GE112.out) | exact HB.out)⟩⟩
     ·rw [if_neg c18] at H
      have c18b0 : ((strOfNums t108).toList == (strOfNums l0).toList) = false := beq_eq_false_iff_ne.mpr c18
      have c18b1 : ((strOfNums t108).toList != (strOfNums l0).toList) = true := bne_iff_ne.mpr c18
      have H' := Aside0.mk H
      clear H
      have hcz30_0 : w14.cell? ⟨gb112, 0, none⟩ = some (.int .i64 0) := (blk_cell BK112.out 0).trans rfl
      have hcz30_1 : w14.cell? ⟨gb112, 1, none⟩ = some (.int .i64 0) := (blk_cell BK112.out 1).trans rfl
      have hcz30_2 : w14.cell? ⟨gb112, 2, none⟩ = some (.int .i64 0) := (blk_cell BK112.out 2).trans rfl
      have hcz30_3 : w14.cell? ⟨gb112, 3, none⟩ = some (.int .i64 0) := (blk_cell BK112.out 3).trans rfl
      have hcz30_4 : w14.cell? ⟨gb112, 4, none⟩ = some (.string (⟨#[]⟩ : ByteArray)) := (blk_cell BK112.out 4).trans rfl
      have hcz30_5 : w14.cell? ⟨gb112, 5, none⟩ = some (.slice none 0 0) := (blk_cell BK112.out 5).trans rfl
      have hfz30_0 := blk_frozen BK112.out 0
      have hfz30_1 := blk_frozen BK112.out 1
      have hfz30_2 := blk_frozen BK112.out 2
      have hfz30_3 := blk_frozen BK112.out 3
      have hfz30_4 := blk_frozen BK112.out 4
      have hfz30_5 := blk_frozen BK112.out 5
      have hcv31 := own_string (P := Tryd.prog) Tryd.underlying23 Tryd.underlying5 Tryd.underlying9 (Kd.own_of_R HO110.out)
      have hcv32 := r_string_d (P := Tryd.prog) Tryd.underlying23 Tryd.underlying5 Tryd.underlying9 HO110.out
      (try (have hcv33 := fun u0_ u1_ u2_ u3_ u4_ u5_ => own_string (P := Tryd.prog) Tryd.underlying23 Tryd.underlying5 Tryd.underlying9 (ownsRow_setCell_other (a := ⟨gb112, 5, none⟩) (ownsRow_setCell_other (a := ⟨gb112, 4, none⟩) (ownsRow_setCell_other (a := ⟨gb112, 3, none⟩) (ownsRow_setCell_other (a := ⟨gb112, 2, none⟩) (ownsRow_setCell_other (a := ⟨gb112, 1, none⟩) (ownsRow_setCell_other (a := ⟨gb112, 0, none⟩) (Kd.own_of_R HO110.out) (Ne.symm (Kd.R_ne HO110.out BK112.out (by decide))) u0_) (Ne.symm (Kd.R_ne HO110.out BK112.out (by decide))) u1_) (Ne.symm (Kd.R_ne HO110.out BK112.out (by decide))) u2_) (Ne.symm (Kd.R_ne HO110.out BK112.out (by decide))) u3_) (Ne.symm (Kd.R_ne HO110.out BK112.out (by decide))) u4_) (Ne.symm (Kd.R_ne HO110.out BK112.out (by decide))) u5_)))
      have hcv34 := Kd.C_string (P := Tryd.prog) (A := A0) (c := c0) Tryd.underlying23 Tryd.underlying5 Tryd.underlying9 (Kd.C_below HR0.out HB.out)
      have hcvP := fun u0_ u1_ u2_ u3_ u4_ u5_ => Kd.C_string (P := Tryd.prog) (A := A0) (c := c0) Tryd.underlying23 Tryd.underlying5 Tryd.underlying9 (Kd.C_below (w1 := (World.setCell (World.setCell (World.setCell (World.setCell (World.setCell (World.setCell w14 ⟨gb112, 0, none⟩ u0_) ⟨gb112, 1, none⟩ u1_) ⟨gb112, 2, none⟩ u2_) ⟨gb112, 3, none⟩ u3_) ⟨gb112, 4, none⟩ u4_) ⟨gb112, 5, none⟩ u5_)) HR0.out (by repeat (first | (with_reducible first | exact HB.out | apply below_alloc | apply pw_below_drewN | apply below_drew1 | refine below_set ?_ GE112.out) | exact HB.out)))
      go_wp2
      go_meet
      case rel => exact ⟨_, (true), (by first | rfl | (simp; done) | (simp; exact (fun l_ : List UInt8 => (by cases l_ <;> rfl : l_.isEmpty = !(l_ != []))) _) | (simp [*]; done)), H', ⟨by first | omega | exact Nat.le_refl _⟩, ⟨by (with_reducible repeat (first | apply Kd.R_alloc | apply Kd.R_drewN | apply Kd.R_drew)); exact Kd.R_mono (Kd.R_far (p := ⟨gb112, 5, none⟩) (Kd.R_far (p := ⟨gb112, 4, none⟩) (Kd.R_far (p := ⟨gb112, 3, none⟩) (Kd.R_far (p := ⟨gb112, 2, none⟩) (Kd.R_far (p := ⟨gb112, 1, none⟩) (Kd.R_far (p := ⟨gb112, 0, none⟩) (Kd.R_types HO110.out BK112.out (by decide)) (fun _ hk => hk.2) (.int .i64 t103)) (fun _ hk => hk.2) (.int .i64 t104)) (fun _ hk => hk.2) (.int .i64 t105)) (fun _ hk => hk.2) (.int .i64 t106)) (fun _ hk => hk.2) (.string t107)) (fun _ hk => hk.2) (.slice Ao16 t108.length co16)) (fun _ hk => trivial)⟩, ⟨by (with_reducible repeat (first | refine blk_drewN ?_ _ | refine blk_drew ?_ | refine blk_alloc ?_ _)); refine blk_put (cs := #[.int .i64 t103, .int .i64 t104, .int .i64 t105, .int .i64 t106, .string t107, .slice none 0 0]) ?_ 5 _ rfl; (with_reducible repeat (first | refine blk_drewN ?_ _ | refine blk_drew ?_ | refine blk_alloc ?_ _)); refine blk_put (cs := #[.int .i64 t103, .int .i64 t104, .int .i64 t105, .int .i64 t106, .string (⟨#[]⟩ : ByteArray), .slice none 0 0]) ?_ 4 _ rfl; (with_reducible repeat (first | refine blk_drewN ?_ _ | refine blk_drew ?_ | refine blk_alloc ?_ _)); refine blk_put (cs := #[.int .i64 t103, .int .i64 t104, .int .i64 t105, .int .i64 0, .string (⟨#[]⟩ : ByteArray), .slice none 0 0]) ?_ 3 _ rfl; (with_reducible repeat (first | refine blk_drewN ?_ _ | refine blk_drew ?_ | refine blk_alloc ?_ _)); refine blk_put (cs := #[.int .i64 t103, .int .i64 t104, .int .i64 0, .int .i64 0, .string (⟨#[]⟩ : ByteArray), .slice none 0 0]) ?_ 2 _ rfl; (with_reducible repeat (first | refine blk_drewN ?_ _ | refine blk_drew ?_ | refine blk_alloc ?_ _)); refine blk_put (cs := #[.int .i64 t103, .int .i64 0, .int .i64 0, .int .i64 0, .string (⟨#[]⟩ : ByteArray), .slice none 0 0]) ?_ 1 _ rfl; (with_reducible repeat (first | refine blk_drewN ?_ _ | refine blk_drew ?_ | refine blk_alloc ?_ _)); refine blk_put (cs := #[.int .i64 0, .int .i64 0, .int .i64 0, .int .i64 0, .string (⟨#[]⟩ : ByteArray), .slice none 0 0]) ?_ 0 _ rfl; (with_reducible repeat (first | refine blk_drewN ?_ _ | refine blk_drew ?_ | refine blk_alloc ?_ _)); exact BK112.out⟩, ⟨by repeat (first | (with_reducible first | exact HB.out | apply below_alloc | apply pw_below_drewN | apply below_drew1 | refine below_set ?_ GE112.out) | exact HB.out)⟩⟩
    ·rw [if_neg c17] at H
     have c17b0 : (t111 == 0) = false := beq_eq_false_iff_ne.mpr c17
     have c17b1 : (t111 != 0) = true := bne_iff_ne.mpr c17
     (first | rw [c17b0] | (simp only [i64_w, i32_w]; rw [c17b0]) | skip)
     have H' := Aside0.mk H
     clear H
     go_wp2
     go_meet
     case rel => exact ⟨_, (true), (by first | rfl | (simp; done) | (simp; exact (fun l_ : List UInt8 => (by cases l_ <;> rfl : l_.isEmpty = !(l_ != []))) _) | (simp [*]; done)), H', ⟨by first | omega | exact Nat.le_refl _⟩, ⟨by (with_reducible repeat (first | apply Kd.R_alloc | apply Kd.R_drewN | apply Kd.R_drew)); exact Kd.R_mono (Kd.R_far (p := ⟨gb112, 5, none⟩) (Kd.R_far (p := ⟨gb112, 4, none⟩) (Kd.R_far (p := ⟨gb112, 3, none⟩) (Kd.R_far (p := ⟨gb112, 2, none⟩) (Kd.R_far (p := ⟨gb112, 1, none⟩) (Kd.R_far (p := ⟨gb112, 0, none⟩) (Kd.R_types HO110.out BK112.out (by decide)) (fun _ hk => hk.2) (.int .i64 t103)) (fun _ hk => hk.2) (.int .i64 t104)) (fun _ hk => hk.2) (.int .i64 t105)) (fun _ hk => hk.2) (.int .i64 t106)) (fun _ hk => hk.2) (.string t107)) (fun _ hk => hk.2) (.slice Ao16 t108.length co16)) (fun _ hk => trivial)⟩, ⟨by (with_reducible repeat (first | refine blk_drewN ?_ _ | refine blk_drew ?_ | refine blk_alloc ?_ _)); refine blk_put (cs := #[.int .i64 t103, .int .i64 t104, .int .i64 t105, .int .i64 t106, .string t107, .slice none 0 0]) ?_ 5 _ rfl; (with_reducible repeat (first | refine blk_drewN ?_ _ | refine blk_drew ?_ | refine blk_alloc ?_ _)); refine blk_put (cs := #[.int .i64 t103, .int .i64 t104, .int .i64 t105, .int .i64 t106, .string (⟨#[]⟩ : ByteArray), .slice none 0 0]) ?_ 4 _ rfl; (with_reducible repeat (first | refine blk_drewN ?_ _ | refine blk_drew ?_ | refine blk_alloc ?_ _)); refine blk_put (cs := #[.int .i64 t103, .int .i64 t104, .int .i64 t105, .int .i64 0, .string (⟨#[]⟩ : ByteArray), .slice none 0 0]) ?_ 3 _ rfl; (with_reducible repeat (first | refine blk_drewN ?_ _ | refine blk_drew ?_ | refine blk_alloc ?_ _)); refine blk_put (cs := #[.int .i64 t103, .int .i64 t104, .int .i64 0, .int .i64 0, .string (⟨#[]⟩ : ByteArray), .slice none 0 0]) ?_ 2 _ rfl; (with_reducible repeat (first | refine blk_drewN ?_ _ | refine blk_drew ?_ | refine blk_alloc ?_ _)); refine blk_put (cs := #[.int .i64 t103, .int .i64 0, .int .i64 0, .int .i64 0, .string (⟨#[]⟩ : ByteArray), .slice none 0 0]) ?_ 1 _ rfl; (with_reducible repeat (first | refine blk_drewN ?_ _ | refine blk_drew ?_ | refine blk_alloc ?_ _)); refine blk_put (cs := #[.int .i64 0, .int .i64 0, .int .i64 0, .int .i64 0, .string (⟨#[]⟩ : ByteArray), .slice none 0 0]) ?_ 0 _ rfl; (with_reducible repeat (first | refine blk_drewN ?_ _ | refine blk_drew ?_ | refine blk_alloc ?_ _)); exact BK112.out⟩, ⟨by repeat (first | (with_reducible first | exact HB.out | apply below_alloc | apply pw_below_drewN | apply below_drew1 | refine below_set ?_ GE112.out) | exact HB.out)⟩⟩
   case rest =>
    clear HC10
    try clear c1
    try clear p2
    try clear hcv2
    try clear hcv3
    try clear c5
    try clear c6
    try clear c6b0
    try clear c6b1
    try clear c7
    try clear c9
    try clear c10
    try clear c13
    try clear c17
    try clear c17b0
    try clear c17b1
    try clear c18
    try clear c18b0
    try clear c18b1
    try clear c19
    try clear c19b0
    try clear c19b1
    try clear hcv21
    try clear hcv22
    try clear hcv23
    try clear hcv24
    try clear hcv26
    try clear hcv27
    try clear hcv28
    try clear hcv29
    try clear hcv31
    try clear hcv32
    try clear hcv33
    try clear hcv34
    try clear hcz15_0
    try clear hcz15_1
    try clear hcz15_2
    try clear hcz15_3
    try clear hcz15_4
    try clear hcz15_5
    try clear hcz20_0
    try clear hcz20_1
    try clear hcz20_2
    try clear hcz20_3
    try clear hcz20_4
    try clear hcz20_5
    try clear hcz25_0
    try clear hcz25_1
    try clear hcz25_2
    try clear hcz25_3
    try clear hcz25_4
    try clear hcz25_5
    try clear hcz30_0
    try clear hcz30_1
    try clear hcz30_2
    try clear hcz30_3
    try clear hcz30_4
    try clear hcz30_5
    try clear hfz15_0
    try clear hfz15_1
    try clear hfz15_2
    try clear hfz15_3
    try clear hfz15_4
    try clear hfz15_5
    try clear hfz20_0
    try clear hfz20_1
    try clear hfz20_2
    try clear hfz20_3
    try clear hfz20_4
    try clear hfz20_5
    try clear hfz25_0
    try clear hfz25_1
    try clear hfz25_2
    try clear hfz25_3
    try clear hfz25_4
    try clear hfz25_5
    try clear hfz30_0
    try clear hfz30_1
    try clear hfz30_2
    try clear hfz30_3
    try clear hfz30_4
    try clear hfz30_5
    obtain ⟨kq, x48_9, rfl, HA, HJ9, HO_113005, BK112, HB⟩ := hcut
    cases kq with
    | zero => exact absurd HA.out (by simp [pannierlaw20_AskData.j0])
    | succ kj9 =>
     have H := HA.out
     clear HA
     simp only [pannierlaw20_AskData.j0] at H
     by_cases c35 : x48_9 = true
     ·subst c35
      have H1 : (some false) = some r := by rw [if_pos rfl] at H; exact H
      clear H
      have H := H1
      clear H1
      obtain rfl := Option.some.inj H
      go_wp2
      go_ret
      exact ⟨by first | rfl | (simp [errW_none, errW_some] <;> rfl) | (simp [*, errW_none, errW_some] <;> rfl), by repeat (first | (with_reducible first | exact HB.out | apply below_alloc | apply pw_below_drewN | apply below_drew1 | refine below_set ?_ GE112.out) | exact HB.out)⟩
     ·replace c35 := Bool.eq_false_iff.mpr c35
      subst c35
      have H1 : (if (l0.length : Int) = 0 then (pannierlaw20_AskData.j1 kj9 a1 a2 t102 true) else (if a1 < 0 then (pannierlaw20_AskData.j1 kj9 a1 a2 t102 true) else (pannierlaw20_AskData.j1 kj9 a1 a2 t102 (decide (a1 ≥ (wrap64 (2 * (l0.length : Int)))))))) = some r := by rw [if_neg (show ¬ (false = true) by decide)] at H; exact H
      clear H
      have H := H1
      clear H1
      have HC36 := Aside0.mk H
      clear H
      go_upto_region 9 with (fail)
      go_cut [62] (fun v62 wc => ∃ (kq : Nat) (x62_35 : Bool), v62 = .bool x62_35 ∧ Aside0 (pannierlaw20_AskData.j1 kq a1 a2 t102 x62_35 = some r) ∧ Aside0 (kq ≤ kj9) ∧ Aside0 (Kd.R (Kd.int .u8) 5 wc w.heap.size (fun _ => True) (.slice Ao16 t108.length co16) t108) ∧ Aside0 (wc.heap[gb112]? = some (.cells #[.int .i64 t103, .int .i64 t104, .int .i64 t105, .int .i64 t106, .string t107, (.slice Ao16 t108.length co16)] 25 (0, 0))) ∧ Aside0 (Below w.heap.size w wc))
      case first =>
       have H := HC36.out
       clear HC36
       by_cases c37 : (l0.length : Int) = 0
       ·rw [if_pos c37] at H
        have c37b0 : ((l0.length : Int) == 0) = true := beq_iff_eq.mpr c37
        have c37b1 : ((l0.length : Int) != 0) = false := bne_eq_false_iff_eq.mpr c37
        clear c37
        (first | rw [c37b0] | (simp only [i64_w, i32_w]; rw [c37b0]) | skip)
        have H' := Aside0.mk H
        clear H
        go_wp2
        go_meet
        case rel => exact ⟨_, (true), (by first | rfl | (simp; done) | (simp; exact (fun l_ : List UInt8 => (by cases l_ <;> rfl : l_.isEmpty = !(l_ != []))) _) | (simp [*]; done)), H', ⟨by have := HJ9.out; first | omega | exact Nat.le_refl _⟩, ⟨by (with_reducible repeat (first | apply Kd.R_alloc | apply Kd.R_drewN | apply Kd.R_drew)); exact HO_113005.out⟩, ⟨by (with_reducible repeat (first | refine blk_drewN ?_ _ | refine blk_drew ?_ | refine blk_alloc ?_ _)); exact BK112.out⟩, ⟨by repeat (first | (with_reducible first | exact HB.out | apply below_alloc | apply pw_below_drewN | apply below_drew1 | refine below_set ?_ GE112.out) | exact HB.out)⟩⟩
       ·rw [if_neg c37] at H
        have c37b0 : ((l0.length : Int) == 0) = false := beq_eq_false_iff_ne.mpr c37
        have c37b1 : ((l0.length : Int) != 0) = true := bne_iff_ne.mpr c37
        have c37b2 : ¬ (l0 = []) := fun h_ => c37 (by rw [h_]; rfl)
        (first | rw [c37b0] | (simp only [i64_w, i32_w]; rw [c37b0]) | skip)
        by_cases c38 : a1 < 0
        ·rw [if_pos c38] at H
         have c38b0 : decide (a1 < 0) = true := decide_eq_true c38
         clear c38
         have H' := Aside0.mk H
         clear H
         go_wp2
         go_meet
         case rel => exact ⟨_, (true), (by first | rfl | (simp; done) | (simp; exact (fun l_ : List UInt8 => (by cases l_ <;> rfl : l_.isEmpty = !(l_ != []))) _) | (simp [*]; done)), H', ⟨by have := HJ9.out; first | omega | exact Nat.le_refl _⟩, ⟨by (with_reducible repeat (first | apply Kd.R_alloc | apply Kd.R_drewN | apply Kd.R_drew)); exact HO_113005.out⟩, ⟨by (with_reducible repeat (first | refine blk_drewN ?_ _ | refine blk_drew ?_ | refine blk_alloc ?_ _)); exact BK112.out⟩, ⟨by repeat (first | (with_reducible first | exact HB.out | apply below_alloc | apply pw_below_drewN | apply below_drew1 | refine below_set ?_ GE112.out) | exact HB.out)⟩⟩
        ·rw [if_neg c38] at H
         have c38b0 : decide (a1 < 0) = false := decide_eq_false c38
         clear c38
         have H' := Aside0.mk H
         clear H
         go_wp2
         go_meet
         case rel => exact ⟨_, (decide (a1 ≥ (wrap64 (2 * (l0.length : Int))))), (by first | rfl | (simp; done) | (simp; exact (fun l_ : List UInt8 => (by cases l_ <;> rfl : l_.isEmpty = !(l_ != []))) _) | (simp [*]; done)), H', ⟨by have := HJ9.out; first | omega | exact Nat.le_refl _⟩, ⟨by (with_reducible repeat (first | apply Kd.R_alloc | apply Kd.R_drewN | apply Kd.R_drew)); exact HO_113005.out⟩, ⟨by (with_reducible repeat (first | refine blk_drewN ?_ _ | refine blk_drew ?_ | refine blk_alloc ?_ _)); exact BK112.out⟩, ⟨by repeat (first | (with_reducible first | exact HB.out | apply below_alloc | apply pw_below_drewN | apply below_drew1 | refine below_set ?_ GE112.out) | exact HB.out)⟩⟩
      case rest =>
       clear HC36
       try clear c1
       try clear p2
       try clear hcv2
       try clear c3
       try clear hcv3
       try clear c5
       try clear c6
       try clear c6b0
       try clear c6b1
       try clear p6
       try clear c7
       try clear c9
       try clear c10
       try clear c13
       try clear c17
       try clear c17b0
       try clear c17b1
       try clear c18
       try clear c18b0
       try clear c18b1
       try clear c19
       try clear c19b0
       try clear c19b1
       try clear hcv21
       try clear hcv22
       try clear hcv23
       try clear hcv24
       try clear hcv26
       try clear hcv27
       try clear hcv28
       try clear hcv29
       try clear hcv31
       try clear hcv32
       try clear hcv33
       try clear hcv34
       try clear c35
       try clear c37
       try clear c37b0
       try clear c37b1
       try clear c37b2
       try clear c38
       try clear c38b0
       try clear hcz15_0
       try clear hcz15_1
       try clear hcz15_2
       try clear hcz15_3
       try clear hcz15_4
       try clear hcz15_5
       try clear hcz20_0
       try clear hcz20_1
       try clear hcz20_2
       try clear hcz20_3
       try clear hcz20_4
       try clear hcz20_5
       try clear hcz25_0
       try clear hcz25_1
       try clear hcz25_2
       try clear hcz25_3
       try clear hcz25_4
       try clear hcz25_5
       try clear hcz30_0
       try clear hcz30_1
       try clear hcz30_2
       try clear hcz30_3
       try clear hcz30_4
       try clear hcz30_5
       try clear hfz15_0
       try clear hfz15_1
       try clear hfz15_2
       try clear hfz15_3
       try clear hfz15_4
       try clear hfz15_5
       try clear hfz20_0
       try clear hfz20_1
       try clear hfz20_2
       try clear hfz20_3
       try clear hfz20_4
       try clear hfz20_5
       try clear hfz25_0
       try clear hfz25_1
       try clear hfz25_2
       try clear hfz25_3
       try clear hfz25_4
       try clear hfz25_5
       try clear hfz30_0
       try clear hfz30_1
       try clear hfz30_2
       try clear hfz30_3
       try clear hfz30_4
       try clear hfz30_5
       try clear p2
       obtain ⟨kq, x62_35, rfl, HA, HJ35, HO_113005, BK112, HB⟩ := hcut
       cases kq with
       | zero => exact absurd HA.out (by simp [pannierlaw20_AskData.j1])
       | succ kj35 =>
        have H := HA.out
        clear HA
        simp only [pannierlaw20_AskData.j1] at H
        by_cases c39 : x62_35 = true
        ·subst c39
         have H1 : (some true) = some r := by rw [if_pos rfl] at H; exact H
         clear H
         have H := H1
         clear H1
         obtain rfl := Option.some.inj H
         go_wp2
         go_ret
         exact ⟨by first | rfl | (simp [errW_none, errW_some] <;> rfl) | (simp [*, errW_none, errW_some] <;> rfl), by repeat (first | (with_reducible first | exact HB.out | apply below_alloc | apply pw_below_drewN | apply below_drew1 | refine below_set ?_ GE112.out) | exact HB.out)⟩
        ·replace c39 := Bool.eq_false_iff.mpr c39
         subst c39
         have H1 : (if 0 ≤ (wrap64 ((t102.size : Int) - 1)) then (if (wrap64 ((t102.size : Int) - 1)) ≤ (t102.size : Int) then ((ask_Decode.f (t102.extract 0 ((wrap64 ((t102.size : Int) - 1)) : Int).toNat)).bind fun bt113 => (if 0 ≤ (wrap64 (9 + a1)) then (if (wrap64 (9 + a1)) < (t102.size : Int) then ((ask_Decode.f (setS t102 (wrap64 (9 + a1)) a2)).bind fun bt123 => (if a2 ≥ 48 then (if a2 ≤ 57 then (if bt113.2.2.2.2.2.2 = 200 then (if ((bt123.2.2.2.2.2.2 == 0) == true) = true then (some true) else (some false)) else (some false)) else (if a2 ≥ 97 then (if bt113.2.2.2.2.2.2 = 200 then (if ((bt123.2.2.2.2.2.2 == 0) == (decide (a2 ≤ 102))) = true then (if a2 ≤ 102 then (some true) else (some (bt123.2.2.2.2.2.2 == 200))) else (some false)) else (some false)) else (if bt113.2.2.2.2.2.2 = 200 then (if ((bt123.2.2.2.2.2.2 == 0) == false) = true then (some (bt123.2.2.2.2.2.2 == 200)) else (some false)) else (some false)))) else (if a2 ≥ 97 then (if bt113.2.2.2.2.2.2 = 200 then (if ((bt123.2.2.2.2.2.2 == 0) == (decide (a2 ≤ 102))) = true then (if a2 ≤ 102 then (some true) else (some (bt123.2.2.2.2.2.2 == 200))) else (some false)) else (some false)) else (if bt113.2.2.2.2.2.2 = 200 then (if ((bt123.2.2.2.2.2.2 == 0) == false) = true then (some (bt123.2.2.2.2.2.2 == 200)) else (some false)) else (some false))))) else (none)) else (none))) else (none)) else (none)) = some r := by rw [if_neg (show ¬ (false = true) by decide)] at H; exact H
         clear H
         have H := H1
         clear H1
         obtain ⟨ji40, hji40⟩ : ∃ j_ : Int, (wrap64 ((t102.size : Int) - 1)) = j_ := ⟨_, rfl⟩
         replace H : (if 0 ≤ (ji40) then (if (ji40) ≤ (t102.size : Int) then ((ask_Decode.f (t102.extract 0 ((ji40) : Int).toNat)).bind fun bt113 => (if 0 ≤ (wrap64 (9 + a1)) then (if (wrap64 (9 + a1)) < (t102.size : Int) then ((ask_Decode.f (setS t102 (wrap64 (9 + a1)) a2)).bind fun bt123 => (if a2 ≥ 48 then (if a2 ≤ 57 then (if bt113.2.2.2.2.2.2 = 200 then (if ((bt123.2.2.2.2.2.2 == 0) == true) = true then (some true) else (some false)) else (some false)) else (if a2 ≥ 97 then (if bt113.2.2.2.2.2.2 = 200 then (if ((bt123.2.2.2.2.2.2 == 0) == (decide (a2 ≤ 102))) = true then (if a2 ≤ 102 then (some true) else (some (bt123.2.2.2.2.2.2 == 200))) else (some false)) else (some false)) else (if bt113.2.2.2.2.2.2 = 200 then (if ((bt123.2.2.2.2.2.2 == 0) == false) = true then (some (bt123.2.2.2.2.2.2 == 200)) else (some false)) else (some false)))) else (if a2 ≥ 97 then (if bt113.2.2.2.2.2.2 = 200 then (if ((bt123.2.2.2.2.2.2 == 0) == (decide (a2 ≤ 102))) = true then (if a2 ≤ 102 then (some true) else (some (bt123.2.2.2.2.2.2 == 200))) else (some false)) else (some false)) else (if bt113.2.2.2.2.2.2 = 200 then (if ((bt123.2.2.2.2.2.2 == 0) == false) = true then (some (bt123.2.2.2.2.2.2 == 200)) else (some false)) else (some false))))) else (none)) else (none))) else (none)) else (none)) = some r := by first | (rw [hji40] at H; exact H) | (simp only [hji40] at H ⊢; exact H)
         have hji40w : (IntKind.i64.wrap ((t102.size : Int) - 1)) = ji40 := (i64_w _).trans hji40
         by_cases c41 : 0 ≤ (ji40)
         ·rw [if_pos c41] at H
          have c41b0 := eq_true c41
          have c41b1 : decide (0 ≤ (ji40)) = true := decide_eq_true c41
          clear c41
          by_cases c42 : (ji40) ≤ (t102.size : Int)
          ·rw [if_pos c42] at H
           have c42b0 := eq_true c42
           have c42b1 : decide ((ji40) ≤ (t102.size : Int)) = true := decide_eq_true c42
           clear c42
           replace H := Option.bind_eq_some_iff.mp H
           obtain ⟨⟨t113, t114, t115, t116, t117, t118, t121⟩, A430, H⟩ := H
           replace H : (if 0 ≤ (wrap64 (9 + a1)) then (if (wrap64 (9 + a1)) < (t102.size : Int) then ((ask_Decode.f (setS t102 (wrap64 (9 + a1)) a2)).bind fun bt123 => (if a2 ≥ 48 then (if a2 ≤ 57 then (if t121 = 200 then (if ((bt123.2.2.2.2.2.2 == 0) == true) = true then (some true) else (some false)) else (some false)) else (if a2 ≥ 97 then (if t121 = 200 then (if ((bt123.2.2.2.2.2.2 == 0) == (decide (a2 ≤ 102))) = true then (if a2 ≤ 102 then (some true) else (some (bt123.2.2.2.2.2.2 == 200))) else (some false)) else (some false)) else (if t121 = 200 then (if ((bt123.2.2.2.2.2.2 == 0) == false) = true then (some (bt123.2.2.2.2.2.2 == 200)) else (some false)) else (some false)))) else (if a2 ≥ 97 then (if t121 = 200 then (if ((bt123.2.2.2.2.2.2 == 0) == (decide (a2 ≤ 102))) = true then (if a2 ≤ 102 then (some true) else (some (bt123.2.2.2.2.2.2 == 200))) else (some false)) else (some false)) else (if t121 = 200 then (if ((bt123.2.2.2.2.2.2 == 0) == false) = true then (some (bt123.2.2.2.2.2.2 == 200)) else (some false)) else (some false))))) else (none)) else (none)) = some r := H
           have A43 := Aside0.mk A430
           clear A430
           obtain ⟨ji44, hji44⟩ : ∃ j_ : Int, (wrap64 (9 + a1)) = j_ := ⟨_, rfl⟩
           replace H : (if 0 ≤ (ji44) then (if (ji44) < (t102.size : Int) then ((ask_Decode.f (setS t102 (ji44) a2)).bind fun bt123 => (if a2 ≥ 48 then (if a2 ≤ 57 then (if t121 = 200 then (if ((bt123.2.2.2.2.2.2 == 0) == true) = true then (some true) else (some false)) else (some false)) else (if a2 ≥ 97 then (if t121 = 200 then (if ((bt123.2.2.2.2.2.2 == 0) == (decide (a2 ≤ 102))) = true then (if a2 ≤ 102 then (some true) else (some (bt123.2.2.2.2.2.2 == 200))) else (some false)) else (some false)) else (if t121 = 200 then (if ((bt123.2.2.2.2.2.2 == 0) == false) = true then (some (bt123.2.2.2.2.2.2 == 200)) else (some false)) else (some false)))) else (if a2 ≥ 97 then (if t121 = 200 then (if ((bt123.2.2.2.2.2.2 == 0) == (decide (a2 ≤ 102))) = true then (if a2 ≤ 102 then (some true) else (some (bt123.2.2.2.2.2.2 == 200))) else (some false)) else (some false)) else (if t121 = 200 then (if ((bt123.2.2.2.2.2.2 == 0) == false) = true then (some (bt123.2.2.2.2.2.2 == 200)) else (some false)) else (some false))))) else (none)) else (none)) = some r := by first | (rw [hji44] at H; exact H) | (simp only [hji44] at H ⊢; exact H)
           (try rw [hji44] at A43)
           have hji44w : (IntKind.i64.wrap (9 + a1)) = ji44 := (i64_w _).trans hji44
           by_cases c45 : 0 ≤ (ji44)
           ·rw [if_pos c45] at H
            have c45b0 : decide (0 ≤ (ji44)) = true := decide_eq_true c45
            clear c45
            by_cases c46 : (ji44) < (t102.size : Int)
            ·rw [if_pos c46] at H
             have c46b0 : decide ((ji44) < (t102.size : Int)) = true := decide_eq_true c46
             clear c46
             replace H := Option.bind_eq_some_iff.mp H
             obtain ⟨⟨t123, t124, t125, t126, t127, t128, t131⟩, A470, H⟩ := H
             replace H : (if a2 ≥ 48 then (if a2 ≤ 57 then (if t121 = 200 then (if ((t131 == 0) == true) = true then (some true) else (some false)) else (some false)) else (if a2 ≥ 97 then (if t121 = 200 then (if ((t131 == 0) == (decide (a2 ≤ 102))) = true then (if a2 ≤ 102 then (some true) else (some (t131 == 200))) else (some false)) else (some false)) else (if t121 = 200 then (if ((t131 == 0) == false) = true then (some (t131 == 200)) else (some false)) else (some false)))) else (if a2 ≥ 97 then (if t121 = 200 then (if ((t131 == 0) == (decide (a2 ≤ 102))) = true then (if a2 ≤ 102 then (some true) else (some (t131 == 200))) else (some false)) else (some false)) else (if t121 = 200 then (if ((t131 == 0) == false) = true then (some (t131 == 200)) else (some false)) else (some false)))) = some r := H
             have A47 := Aside0.mk A470
             clear A470
             have hs44 : t102.size ≤ 9223372036854775807 := Nat.le_trans (encode_size A8.out) (by decide)
             have p44 : 0 ≤ ji44 := of_decide_eq_true c45b0
             have q44 : ji44 < (t102.size : Int) := of_decide_eq_true c46b0
             have p44t := eq_true p44
             have q44t := eq_true q44
             clear HO_113005 BK112
             go_upto_region 15 with (first | ((with_reducible refine gate_callee (f := 10) rfl ?_); refine goesL_ (some 69) rfl rfl Tryd.func10 (by kernel_rfl) rfl #[.string (t102.extract 0 ((ji40) : Int).toNat)] rfl (by (try simp only [List.map_toArray, List.map_cons, List.map_nil]); first | done | (simp only [hji40]; rfl) | rfl) ?_; (with_reducible refine (ask_Decode.calls (t102.extract 0 ((ji40) : Int).toNat) t113 t114 t115 t116 t117 t118 t121 _ ?side1 A43.out).mono ?_); (case side1 => exact HE_.out.below (by repeat (first | (with_reducible first | exact HB.out | apply below_alloc | apply pw_below_drewN | apply below_drew1 | refine below_set ?_ GE112.out) | exact HB.out))); rintro e w52 ⟨v52, rfl, ho0, hb⟩; refine ⟨_, rfl, ?_⟩; obtain ⟨Ao52, co52, rfl⟩ := Kd.R_slice ho0; clear ho0; have n0_ := Aside0.mk (below_step (by repeat (first | (with_reducible first | exact HB.out | apply below_alloc | apply pw_below_drewN | apply below_drew1 | refine below_set ?_ GE112.out) | exact HB.out)) hb); clear HB; have HB := n0_; clear n0_; (try clear hb)) | ((with_reducible refine gate_dst (N := 10) rfl ?_); (try (refine gate_guard (by rfl) ?_; dsimp only)); refine box_event ?hg (N := 10) ?hd (cs := #[.int .i64 0, .int .i64 0, .int .i64 0, .int .i64 0, .string (⟨#[]⟩ : ByteArray), .slice none 0 0]) (t := 25) ?hr ?_; (case hd => rfl); (case hg => rfl); (case hr => first | (go_simp; done) | (go_simp; rfl)); intro gb122 hg w53 hbox hb; have n4_ := Aside0.mk hbox; have n3_ := Aside0.mk (below_step (by repeat (first | (with_reducible first | exact HB.out | apply below_alloc | apply pw_below_drewN | apply below_drew1 | refine below_set ?_ GE112.out) | exact HB.out)) hb); have n5_ := Aside0.mk ((by rw [hg]; exact (below_size (by repeat (first | (with_reducible first | exact HB.out | apply below_alloc | apply pw_below_drewN | apply below_drew1 | refine below_set ?_ GE112.out) | exact HB.out)))) : w.heap.size ≤ gb122); clear HB; have HB := n3_; have BK122 := n4_; have GE122 := n5_; clear n3_ n4_ n5_; clear hb hbox hg; have hcz53_0 : w53.cell? ⟨gb122, 0, none⟩ = some (.int .i64 0) := (blk_cell BK122.out 0).trans rfl; have hfz53_0 := blk_frozen BK122.out 0; have hcz53_1 : w53.cell? ⟨gb122, 1, none⟩ = some (.int .i64 0) := (blk_cell BK122.out 1).trans rfl; have hfz53_1 := blk_frozen BK122.out 1; have hcz53_2 : w53.cell? ⟨gb122, 2, none⟩ = some (.int .i64 0) := (blk_cell BK122.out 2).trans rfl; have hfz53_2 := blk_frozen BK122.out 2; have hcz53_3 : w53.cell? ⟨gb122, 3, none⟩ = some (.int .i64 0) := (blk_cell BK122.out 3).trans rfl; have hfz53_3 := blk_frozen BK122.out 3; have hcz53_4 : w53.cell? ⟨gb122, 4, none⟩ = some (.string (⟨#[]⟩ : ByteArray)) := (blk_cell BK122.out 4).trans rfl; have hfz53_4 := blk_frozen BK122.out 4; have hcz53_5 : w53.cell? ⟨gb122, 5, none⟩ = some (.slice none 0 0) := (blk_cell BK122.out 5).trans rfl; have hfz53_5 := blk_frozen BK122.out 5) | ((with_reducible refine gate_dst (N := 73) rfl ?_); (try (refine gate_guard (by rfl) ?_; dsimp only)); refine conv_event ?hg t102 (.tmp 72) ?ho ?hx ?_; (case hg => rfl); (case ho => rfl); (case hx => rfl); intro gb555 cc555 w555 hg hcell hfz hb; have n3_ := Aside0.mk (below_step (by repeat (first | (with_reducible first | exact HB.out | apply below_alloc | apply pw_below_drewN | apply below_drew1 | refine below_set ?_ GE112.out | refine below_set ?_ GE122.out) | exact HB.out)) hb); have n5_ := Aside0.mk ((by rw [hg]; exact (below_size (by repeat (first | (with_reducible first | exact HB.out | apply below_alloc | apply pw_below_drewN | apply below_drew1 | refine below_set ?_ GE112.out | refine below_set ?_ GE122.out) | exact HB.out)))) : w.heap.size ≤ gb555); clear HB; have HB := n3_; have GE555 := n5_; clear n3_ n5_; clear hb hg; have hcell555 := hcell ji44.toNat (jt_lt p44 q44); have hfz555 := hfz ji44.toNat (jt_lt p44 q44); have hcvA := conv_back hcell p44 q44 a2 cc555 hs44; have hcvB := conv_back_d hcell p44 q44 a2 cc555 hs44; clear hcell hfz) | ((with_reducible refine gate_callee (f := 10) rfl ?_); refine goesL_ (some 82) rfl rfl Tryd.func10 (by kernel_rfl) rfl #[.string (setS t102 (ji44) a2)] rfl (by (try simp only [List.map_toArray, List.map_cons, List.map_nil]); first | done | (simp only [hji44]; rfl) | rfl) ?_; (with_reducible refine (ask_Decode.calls (setS t102 (ji44) a2) t123 t124 t125 t126 t127 t128 t131 _ ?side1 A47.out).mono ?_); (case side1 => exact HE_.out.below (by repeat (first | (with_reducible first | exact HB.out | apply below_alloc | apply pw_below_drewN | apply below_drew1 | refine below_set ?_ GE112.out | refine below_set ?_ GE122.out | refine below_set ?_ GE555.out) | exact HB.out))); rintro e w57 ⟨v57, rfl, ho0, hb⟩; refine ⟨_, rfl, ?_⟩; obtain ⟨Ao57, co57, rfl⟩ := Kd.R_slice ho0; clear ho0; have n0_ := Aside0.mk (below_step (by repeat (first | (with_reducible first | exact HB.out | apply below_alloc | apply pw_below_drewN | apply below_drew1 | refine below_set ?_ GE112.out | refine below_set ?_ GE122.out | refine below_set ?_ GE555.out) | exact HB.out)) hb); clear HB; have HB := n0_; clear n0_; (try clear hb)) | ((with_reducible refine gate_dst (N := 13) rfl ?_); (try (refine gate_guard (by rfl) ?_; dsimp only)); refine box_event ?hg (N := 13) ?hd (cs := #[.int .i64 0, .int .i64 0, .int .i64 0, .int .i64 0, .string (⟨#[]⟩ : ByteArray), .slice none 0 0]) (t := 25) ?hr ?_; (case hd => rfl); (case hg => rfl); (case hr => first | (go_simp; done) | (go_simp; rfl)); intro gb132 hg w58 hbox hb; have n4_ := Aside0.mk hbox; have n3_ := Aside0.mk (below_step (by repeat (first | (with_reducible first | exact HB.out | apply below_alloc | apply pw_below_drewN | apply below_drew1 | refine below_set ?_ GE112.out | refine below_set ?_ GE122.out | refine below_set ?_ GE555.out) | exact HB.out)) hb); have n5_ := Aside0.mk ((by rw [hg]; exact (below_size (by repeat (first | (with_reducible first | exact HB.out | apply below_alloc | apply pw_below_drewN | apply below_drew1 | refine below_set ?_ GE112.out | refine below_set ?_ GE122.out | refine below_set ?_ GE555.out) | exact HB.out)))) : w.heap.size ≤ gb132); clear HB; have HB := n3_; have BK132 := n4_; have GE132 := n5_; clear n3_ n4_ n5_; clear hb hbox hg; have hcz58_0 : w58.cell? ⟨gb132, 0, none⟩ = some (.int .i64 0) := (blk_cell BK132.out 0).trans rfl; have hfz58_0 := blk_frozen BK132.out 0; have hcz58_1 : w58.cell? ⟨gb132, 1, none⟩ = some (.int .i64 0) := (blk_cell BK132.out 1).trans rfl; have hfz58_1 := blk_frozen BK132.out 1; have hcz58_2 : w58.cell? ⟨gb132, 2, none⟩ = some (.int .i64 0) := (blk_cell BK132.out 2).trans rfl; have hfz58_2 := blk_frozen BK132.out 2; have hcz58_3 : w58.cell? ⟨gb132, 3, none⟩ = some (.int .i64 0) := (blk_cell BK132.out 3).trans rfl; have hfz58_3 := blk_frozen BK132.out 3; have hcz58_4 : w58.cell? ⟨gb132, 4, none⟩ = some (.string (⟨#[]⟩ : ByteArray)) := (blk_cell BK132.out 4).trans rfl; have hfz58_4 := blk_frozen BK132.out 4; have hcz58_5 : w58.cell? ⟨gb132, 5, none⟩ = some (.slice none 0 0) := (blk_cell BK132.out 5).trans rfl; have hfz58_5 := blk_frozen BK132.out 5))
             by_cases c48 : a2 ≥ 48
             ·rw [if_pos c48] at H
              have c48b0 : decide (48 ≤ a2) = true := decide_eq_true c48
              clear c48
              by_cases c49 : a2 ≤ 57
              ·rw [if_pos c49] at H
               have c49b0 : decide (a2 ≤ 57) = true := decide_eq_true c49
               clear c49
               by_cases c50 : t121 = 200
               ·rw [if_pos c50] at H
                have c50b0 : (t121 == 200) = true := beq_iff_eq.mpr c50
                have c50b1 : (t121 != 200) = false := bne_eq_false_iff_eq.mpr c50
                clear c50
                by_cases c51 : ((t131 == 0) == true) = true
                ·rw [if_pos c51] at H
                 have c51b0 : ((t131 == 0) == true) = true := c51
                 (try (have c51b1 : decide ((t131 == 0) = true) = true := by simpa using c51))
                 (try (have c51b2 : ((t131 == 0) == true) = true := by simpa using c51))
                 clear c51
                 obtain rfl := Option.some.inj H
                 go_wp2
                 go_ret
                 exact ⟨by first | rfl | (simp [errW_none, errW_some] <;> rfl) | (simp [*, errW_none, errW_some] <;> rfl), by repeat (first | (with_reducible first | exact HB.out | apply below_alloc | apply pw_below_drewN | apply below_drew1 | refine below_set ?_ GE112.out | refine below_set ?_ GE122.out | refine below_set ?_ GE555.out | refine below_set ?_ GE132.out) | exact HB.out)⟩
                ·rw [if_neg c51] at H
                 have c51b0 : ((t131 == 0) == true) = false := by simpa using c51
                 (try (have c51b1 : decide ((t131 == 0) = true) = false := by simpa using c51))
                 (try (have c51b2 : ((t131 == 0) == true) = false := by simpa using c51))
                 (try (have c51b3 : ¬ ((t131 == 0) = true) := by simpa using c51))
                 clear c51
                 obtain rfl := Option.some.inj H
                 go_wp2
                 go_ret
                 exact ⟨by first | rfl | (simp [errW_none, errW_some] <;> rfl) | (simp [*, errW_none, errW_some] <;> rfl), by repeat (first | (with_reducible first | exact HB.out | apply below_alloc | apply pw_below_drewN | apply below_drew1 | refine below_set ?_ GE112.out | refine below_set ?_ GE122.out | refine below_set ?_ GE555.out | refine below_set ?_ GE132.out) | exact HB.out)⟩
               ·rw [if_neg c50] at H
                have c50b0 : (t121 == 200) = false := beq_eq_false_iff_ne.mpr c50
                have c50b1 : (t121 != 200) = true := bne_iff_ne.mpr c50
                obtain rfl := Option.some.inj H
                go_wp2
                go_ret
                exact ⟨by first | rfl | (simp [errW_none, errW_some] <;> rfl) | (simp [*, errW_none, errW_some] <;> rfl), by repeat (first | (with_reducible first | exact HB.out | apply below_alloc | apply pw_below_drewN | apply below_drew1 | refine below_set ?_ GE112.out | refine below_set ?_ GE122.out | refine below_set ?_ GE555.out | refine below_set ?_ GE132.out) | exact HB.out)⟩
              ·rw [if_neg c49] at H
               have c49b0 : decide (a2 ≤ 57) = false := decide_eq_false c49
               clear c49
               by_cases c85 : a2 ≥ 97
               ·rw [if_pos c85] at H
                have c85b0 : decide (97 ≤ a2) = true := decide_eq_true c85
                clear c85
                by_cases c86 : t121 = 200
                ·rw [if_pos c86] at H
                 have c86b0 : (t121 == 200) = true := beq_iff_eq.mpr c86
                 have c86b1 : (t121 != 200) = false := bne_eq_false_iff_eq.mpr c86
                 clear c86
                 by_cases c87 : ((t131 == 0) == (decide (a2 ≤ 102))) = true
                 ·rw [if_pos c87] at H
                  have c87b0 : ((t131 == 0) == (decide (a2 ≤ 102))) = true := c87
                  (try (have c87b1 : decide ((t131 == 0) = (decide (a2 ≤ 102))) = true := by simpa using c87))
                  (try (have c87b2 : ((t131 == 0) == (decide (a2 ≤ 102))) = true := by simpa using c87))
                  clear c87
                  by_cases c88 : a2 ≤ 102
                  ·rw [if_pos c88] at H
                   have c88b0 : decide (a2 ≤ 102) = true := decide_eq_true c88
                   have cx_ : (t131 == 0) = true := by have h_ := c87b0; rw [c88b0] at h_; simpa using h_
                   clear c88
                   obtain rfl := Option.some.inj H
                   go_wp2
                   go_ret
                   exact ⟨by first | rfl | (simp [errW_none, errW_some] <;> rfl) | (simp [*, errW_none, errW_some] <;> rfl), by repeat (first | (with_reducible first | exact HB.out | apply below_alloc | apply pw_below_drewN | apply below_drew1 | refine below_set ?_ GE112.out | refine below_set ?_ GE122.out | refine below_set ?_ GE555.out | refine below_set ?_ GE132.out) | exact HB.out)⟩
                  ·rw [if_neg c88] at H
                   have c88b0 : decide (a2 ≤ 102) = false := decide_eq_false c88
                   have cx_ : (t131 == 0) = false := by have h_ := c87b0; rw [c88b0] at h_; simpa using h_
                   clear c88
                   obtain rfl := Option.some.inj H
                   go_wp2
                   go_ret
                   exact ⟨by first | rfl | (simp [errW_none, errW_some] <;> rfl) | (simp [*, errW_none, errW_some] <;> rfl), by repeat (first | (with_reducible first | exact HB.out | apply below_alloc | apply pw_below_drewN | apply below_drew1 | refine below_set ?_ GE112.out | refine below_set ?_ GE122.out | refine below_set ?_ GE555.out | refine below_set ?_ GE132.out) | exact HB.out)⟩
                 ·rw [if_neg c87] at H
                  have c87b0 : ((t131 == 0) == (decide (a2 ≤ 102))) = false := by simpa using c87
                  (try (have c87b1 : decide ((t131 == 0) = (decide (a2 ≤ 102))) = false := by simpa using c87))
                  (try (have c87b2 : ((t131 == 0) == (decide (a2 ≤ 102))) = false := by simpa using c87))
                  (try (have c87b3 : ¬ ((t131 == 0) = (decide (a2 ≤ 102))) := by simpa using c87))
                  clear c87
                  obtain rfl := Option.some.inj H
                  go_wp2
                  go_ret
                  exact ⟨by first | rfl | (simp [errW_none, errW_some] <;> rfl) | (simp [*, errW_none, errW_some] <;> rfl), by repeat (first | (with_reducible first | exact HB.out | apply below_alloc | apply pw_below_drewN | apply below_drew1 | refine below_set ?_ GE112.out | refine below_set ?_ GE122.out | refine below_set ?_ GE555.out | refine below_set ?_ GE132.out) | exact HB.out)⟩
                ·rw [if_neg c86] at H
                 have c86b0 : (t121 == 200) = false := beq_eq_false_iff_ne.mpr c86
                 have c86b1 : (t121 != 200) = true := bne_iff_ne.mpr c86
                 obtain rfl := Option.some.inj H
                 go_wp2
                 go_ret
                 exact ⟨by first | rfl | (simp [errW_none, errW_some] <;> rfl) | (simp [*, errW_none, errW_some] <;> rfl), by repeat (first | (with_reducible first | exact HB.out | apply below_alloc | apply pw_below_drewN | apply below_drew1 | refine below_set ?_ GE112.out | refine below_set ?_ GE122.out | refine below_set ?_ GE555.out | refine below_set ?_ GE132.out) | exact HB.out)⟩
               ·rw [if_neg c85] at H
                have c85b0 : decide (97 ≤ a2) = false := decide_eq_false c85
                clear c85
                by_cases c133 : t121 = 200
                ·rw [if_pos c133] at H
                 have c133b0 : (t121 == 200) = true := beq_iff_eq.mpr c133
                 have c133b1 : (t121 != 200) = false := bne_eq_false_iff_eq.mpr c133
                 clear c133
                 by_cases c134 : ((t131 == 0) == false) = true
                 ·rw [if_pos c134] at H
                  have c134b0 : ((t131 == 0) == false) = true := c134
                  (try (have c134b1 : decide ((t131 == 0) = false) = true := by simpa using c134))
                  (try (have c134b2 : ((t131 == 0) == false) = true := by simpa using c134))
                  clear c134
                  obtain rfl := Option.some.inj H
                  go_wp2
                  go_ret
                  exact ⟨by first | rfl | (simp [errW_none, errW_some] <;> rfl) | (simp [*, errW_none, errW_some] <;> rfl), by repeat (first | (with_reducible first | exact HB.out | apply below_alloc | apply pw_below_drewN | apply below_drew1 | refine below_set ?_ GE112.out | refine below_set ?_ GE122.out | refine below_set ?_ GE555.out | refine below_set ?_ GE132.out) | exact HB.out)⟩
                 ·rw [if_neg c134] at H
                  have c134b0 : ((t131 == 0) == false) = false := by simpa using c134
                  (try (have c134b1 : decide ((t131 == 0) = false) = false := by simpa using c134))
                  (try (have c134b2 : ((t131 == 0) == false) = false := by simpa using c134))
                  (try (have c134b3 : ¬ ((t131 == 0) = false) := by simpa using c134))
                  clear c134
                  obtain rfl := Option.some.inj H
                  go_wp2
                  go_ret
                  exact ⟨by first | rfl | (simp [errW_none, errW_some] <;> rfl) | (simp [*, errW_none, errW_some] <;> rfl), by repeat (first | (with_reducible first | exact HB.out | apply below_alloc | apply pw_below_drewN | apply below_drew1 | refine below_set ?_ GE112.out | refine below_set ?_ GE122.out | refine below_set ?_ GE555.out | refine below_set ?_ GE132.out) | exact HB.out)⟩
                ·rw [if_neg c133] at H
                 have c133b0 : (t121 == 200) = false := beq_eq_false_iff_ne.mpr c133
                 have c133b1 : (t121 != 200) = true := bne_iff_ne.mpr c133
                 obtain rfl := Option.some.inj H
                 go_wp2
                 go_ret
                 exact ⟨by first | rfl | (simp [errW_none, errW_some] <;> rfl) | (simp [*, errW_none, errW_some] <;> rfl), by repeat (first | (with_reducible first | exact HB.out | apply below_alloc | apply pw_below_drewN | apply below_drew1 | refine below_set ?_ GE112.out | refine below_set ?_ GE122.out | refine below_set ?_ GE555.out | refine below_set ?_ GE132.out) | exact HB.out)⟩
             ·rw [if_neg c48] at H
              have c48b0 : decide (48 ≤ a2) = false := decide_eq_false c48
              clear c48
              by_cases c168 : a2 ≥ 97
              ·rw [if_pos c168] at H
               have c168b0 : decide (97 ≤ a2) = true := decide_eq_true c168
               clear c168
               by_cases c169 : t121 = 200
               ·rw [if_pos c169] at H
                have c169b0 : (t121 == 200) = true := beq_iff_eq.mpr c169
                have c169b1 : (t121 != 200) = false := bne_eq_false_iff_eq.mpr c169
                clear c169
                by_cases c170 : ((t131 == 0) == (decide (a2 ≤ 102))) = true
                ·rw [if_pos c170] at H
                 have c170b0 : ((t131 == 0) == (decide (a2 ≤ 102))) = true := c170
                 (try (have c170b1 : decide ((t131 == 0) = (decide (a2 ≤ 102))) = true := by simpa using c170))
                 (try (have c170b2 : ((t131 == 0) == (decide (a2 ≤ 102))) = true := by simpa using c170))
                 clear c170
                 by_cases c171 : a2 ≤ 102
                 ·rw [if_pos c171] at H
                  have c171b0 : decide (a2 ≤ 102) = true := decide_eq_true c171
                  have cx_ : (t131 == 0) = true := by have h_ := c170b0; rw [c171b0] at h_; simpa using h_
                  clear c171
                  obtain rfl := Option.some.inj H
                  go_wp2
                  go_ret
                  exact ⟨by first | rfl | (simp [errW_none, errW_some] <;> rfl) | (simp [*, errW_none, errW_some] <;> rfl), by repeat (first | (with_reducible first | exact HB.out | apply below_alloc | apply pw_below_drewN | apply below_drew1 | refine below_set ?_ GE112.out | refine below_set ?_ GE122.out | refine below_set ?_ GE555.out | refine below_set ?_ GE132.out) | exact HB.out)⟩
                 ·rw [if_neg c171] at H
                  have c171b0 : decide (a2 ≤ 102) = false := decide_eq_false c171
                  have cx_ : (t131 == 0) = false := by have h_ := c170b0; rw [c171b0] at h_; simpa using h_
                  clear c171
                  obtain rfl := Option.some.inj H
                  go_wp2
                  go_ret
                  exact ⟨by first | rfl | (simp [errW_none, errW_some] <;> rfl) | (simp [*, errW_none, errW_some] <;> rfl), by repeat (first | (with_reducible first | exact HB.out | apply below_alloc | apply pw_below_drewN | apply below_drew1 | refine below_set ?_ GE112.out | refine below_set ?_ GE122.out | refine below_set ?_ GE555.out | refine below_set ?_ GE132.out) | exact HB.out)⟩
                ·rw [if_neg c170] at H
                 have c170b0 : ((t131 == 0) == (decide (a2 ≤ 102))) = false := by simpa using c170
                 (try (have c170b1 : decide ((t131 == 0) = (decide (a2 ≤ 102))) = false := by simpa using c170))
                 (try (have c170b2 : ((t131 == 0) == (decide (a2 ≤ 102))) = false := by simpa using c170))
                 (try (have c170b3 : ¬ ((t131 == 0) = (decide (a2 ≤ 102))) := by simpa using c170))
                 clear c170
                 obtain rfl := Option.some.inj H
                 go_wp2
                 go_ret
                 exact ⟨by first | rfl | (simp [errW_none, errW_some] <;> rfl) | (simp [*, errW_none, errW_some] <;> rfl), by repeat (first | (with_reducible first | exact HB.out | apply below_alloc | apply pw_below_drewN | apply below_drew1 | refine below_set ?_ GE112.out | refine below_set ?_ GE122.out | refine below_set ?_ GE555.out | refine below_set ?_ GE132.out) | exact HB.out)⟩
               ·rw [if_neg c169] at H
                have c169b0 : (t121 == 200) = false := beq_eq_false_iff_ne.mpr c169
                have c169b1 : (t121 != 200) = true := bne_iff_ne.mpr c169
                obtain rfl := Option.some.inj H
                go_wp2
                go_ret
                exact ⟨by first | rfl | (simp [errW_none, errW_some] <;> rfl) | (simp [*, errW_none, errW_some] <;> rfl), by repeat (first | (with_reducible first | exact HB.out | apply below_alloc | apply pw_below_drewN | apply below_drew1 | refine below_set ?_ GE112.out | refine below_set ?_ GE122.out | refine below_set ?_ GE555.out | refine below_set ?_ GE132.out) | exact HB.out)⟩
              ·rw [if_neg c168] at H
               have c168b0 : decide (97 ≤ a2) = false := decide_eq_false c168
               clear c168
               by_cases c216 : t121 = 200
               ·rw [if_pos c216] at H
                have c216b0 : (t121 == 200) = true := beq_iff_eq.mpr c216
                have c216b1 : (t121 != 200) = false := bne_eq_false_iff_eq.mpr c216
                clear c216
                by_cases c217 : ((t131 == 0) == false) = true
                ·rw [if_pos c217] at H
                 have c217b0 : ((t131 == 0) == false) = true := c217
                 (try (have c217b1 : decide ((t131 == 0) = false) = true := by simpa using c217))
                 (try (have c217b2 : ((t131 == 0) == false) = true := by simpa using c217))
                 clear c217
                 obtain rfl := Option.some.inj H
                 go_wp2
                 go_ret
                 exact ⟨by first | rfl | (simp [errW_none, errW_some] <;> rfl) | (simp [*, errW_none, errW_some] <;> rfl), by repeat (first | (with_reducible first | exact HB.out | apply below_alloc | apply pw_below_drewN | apply below_drew1 | refine below_set ?_ GE112.out | refine below_set ?_ GE122.out | refine below_set ?_ GE555.out | refine below_set ?_ GE132.out) | exact HB.out)⟩
                ·rw [if_neg c217] at H
                 have c217b0 : ((t131 == 0) == false) = false := by simpa using c217
                 (try (have c217b1 : decide ((t131 == 0) = false) = false := by simpa using c217))
                 (try (have c217b2 : ((t131 == 0) == false) = false := by simpa using c217))
                 (try (have c217b3 : ¬ ((t131 == 0) = false) := by simpa using c217))
                 clear c217
                 obtain rfl := Option.some.inj H
                 go_wp2
                 go_ret
                 exact ⟨by first | rfl | (simp [errW_none, errW_some] <;> rfl) | (simp [*, errW_none, errW_some] <;> rfl), by repeat (first | (with_reducible first | exact HB.out | apply below_alloc | apply pw_below_drewN | apply below_drew1 | refine below_set ?_ GE112.out | refine below_set ?_ GE122.out | refine below_set ?_ GE555.out | refine below_set ?_ GE132.out) | exact HB.out)⟩
               ·rw [if_neg c216] at H
                have c216b0 : (t121 == 200) = false := beq_eq_false_iff_ne.mpr c216
                have c216b1 : (t121 != 200) = true := bne_iff_ne.mpr c216
                obtain rfl := Option.some.inj H
                go_wp2
                go_ret
                exact ⟨by first | rfl | (simp [errW_none, errW_some] <;> rfl) | (simp [*, errW_none, errW_some] <;> rfl), by repeat (first | (with_reducible first | exact HB.out | apply below_alloc | apply pw_below_drewN | apply below_drew1 | refine below_set ?_ GE112.out | refine below_set ?_ GE122.out | refine below_set ?_ GE555.out | refine below_set ?_ GE132.out) | exact HB.out)⟩
            ·rw [if_neg c46] at H
             exact absurd H (by simp)
           ·rw [if_neg c45] at H
            exact absurd H (by simp)
          ·rw [if_neg c42] at H
           exact absurd H (by simp)
         ·rw [if_neg c41] at H
          exact absurd H (by simp)
 ·replace c5 := Bool.eq_false_iff.mpr c5
  subst c5
  have H1 : (some false) = some r := by rw [if_neg (show ¬ (false = true) by decide)] at H; exact H
  clear H
  have H := H1
  clear H1
  obtain rfl := Option.some.inj H
  go_enter Tryd.func7, Tryd.ntmps7
  go_wp2_with (first | ((with_reducible refine gate_callee (f := 9) rfl ?_); refine goesL_ (some 16) rfl rfl Tryd.func9 (by kernel_rfl) rfl #[] rfl (by (try simp only [List.map_toArray, List.map_cons, List.map_nil]); first | done | rfl | (simp only [List.length_drop, List.length_take]; rfl)) ?_; (with_reducible refine (pannierlaw20_asks.calls  false _ ?side1 A4.out).mono ?_); (case side1 => exact HE_.out.below (by repeat (first | (with_reducible first | exact HB.out | apply below_alloc | apply pw_below_drewN | apply below_drew1) | exact HB.out))); rintro e w251 ⟨rfl, hb⟩; refine ⟨_, rfl, ?_⟩; have n0_ := Aside0.mk (below_step (by repeat (first | (with_reducible first | exact HB.out | apply below_alloc | apply pw_below_drewN | apply below_drew1) | exact HB.out)) hb); clear HB; have HB := n0_; clear n0_; (try clear hb); (try clear hb2); (try clear hk); (try clear hi)))
  go_ret
  exact ⟨by first | rfl | (simp [errW_none, errW_some] <;> rfl) | (simp [*, errW_none, errW_some] <;> rfl), by repeat (first | (with_reducible first | exact HB.out | apply below_alloc | apply pw_below_drewN | apply below_drew1) | exact HB.out)⟩

end Go.Proofs.YtbkhhmgpfjemcaaDoor.PAskD
