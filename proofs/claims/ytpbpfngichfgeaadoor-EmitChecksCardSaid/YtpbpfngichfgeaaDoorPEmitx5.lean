-- Printed by a program of ours (wip/print2).
import Derived.Test.YtpbpfngichfgeaaDoorEmitExt
import Derived.Test.YtpbpfngichfgeaaDoorPEmitx0
import Derived.Test.YtpbpfngichfgeaaDoorPEmitx2
import Derived.Test.YtpbpfngichfgeaaDoorPEmitx4
namespace Go.Proofs.YtpbpfngichfgeaaDoor.PEmit
open Go.RowKit Go.Proofs.YtpbpfngichfgeaaDoorW.PrintWords Go.Proofs.YtpbpfngichfgeaaDoorW.PrintLast Go.Proofs.YtpbpfngichfgeaaDoorW.PrintMore
attribute [local go_sem] max2_int min2_int max_two min_two max_three min_three max_four min_four   -- for this text's walks alone
set_option linter.unusedVariables false
set_option linter.unusedSimpArgs false

/-! ### pannierlaw18_EmitChecks: function 5 -/
mutual
def pannierlaw18_EmitChecks.l0 : Nat → Bool → List ByteArray → Int → Int → ByteArray → ByteArray → Int → Int → Int → Int → Int → Int → ByteArray → ByteArray → Option (Bool)
 | 0, _, _, _, _, _, _, _, _, _, _, _, _, _, _ => none
 | k + 1, x3, x22, x23, x24, x184000, x184001, x184002, x184003, x184004, x184005, x184006, x184007, x184008, x184009 => if x24 < x23 then (if 0 ≤ x24 then (if x24 < (x22.length : Int) then (pannierlaw18_EmitChecks.l1 k x3 (rdOf ByteArray.empty x22 x24) x22 x23 x24 ((rdOf ByteArray.empty x22 x24).size : Int) 0 x184000 x184001 x184002 x184003 x184004 x184005 x184006 x184007 x184008 x184009) else (none)) else (none)) else (if x184002 = 2 then (if x184002 ≥ 1 then (if x184002 ≤ 4 then (if x184003 ≥ 0 then (if x184003 ≤ 4095 then (if x184004 ≥ 0 then (if x184005 ≥ 0 then (if x184007 ≥ 0 then (if x184002 = 1 then (if (true == (x184001.toList != ([] : List UInt8))) = true then (if x184000.toList = ([] : List UInt8) then ((emit_Check.f k x184000 x184001 x184002 x184003 x184004 x184005 x184006 x184007 x184008 x184009).bind fun t189 => (some (t189 == 90))) else (if x3 = true then (if (¬ (x3 = true)) then (some false) else ((emit_Check.f k x184000 x184001 x184002 x184003 x184004 x184005 x184006 x184007 x184008 x184009).bind fun t190 => (some (t190 == 90)))) else ((emit_Check.f k x184000 x184001 x184002 x184003 x184004 x184005 x184006 x184007 x184008 x184009).bind fun t191 => (if t191 = 0 then (some true) else (if (¬ (x3 = true)) then (some false) else ((emit_Check.f k x184000 x184001 x184002 x184003 x184004 x184005 x184006 x184007 x184008 x184009).bind fun t192 => (some (t192 == 90)))))))) else ((emit_Check.f k x184000 x184001 x184002 x184003 x184004 x184005 x184006 x184007 x184008 x184009).bind fun t193 => (some (t193 == 90)))) else (if x184007 = 0 then (if (true == (x184001.toList != ([] : List UInt8))) = true then (if x184000.toList = ([] : List UInt8) then ((emit_Check.f k x184000 x184001 x184002 x184003 x184004 x184005 x184006 x184007 x184008 x184009).bind fun t194 => (some (t194 == 90))) else (if x3 = true then (if (¬ (x3 = true)) then (some false) else ((emit_Check.f k x184000 x184001 x184002 x184003 x184004 x184005 x184006 x184007 x184008 x184009).bind fun t195 => (some (t195 == 90)))) else ((emit_Check.f k x184000 x184001 x184002 x184003 x184004 x184005 x184006 x184007 x184008 x184009).bind fun t196 => (if t196 = 0 then (some true) else (if (¬ (x3 = true)) then (some false) else ((emit_Check.f k x184000 x184001 x184002 x184003 x184004 x184005 x184006 x184007 x184008 x184009).bind fun t197 => (some (t197 == 90)))))))) else ((emit_Check.f k x184000 x184001 x184002 x184003 x184004 x184005 x184006 x184007 x184008 x184009).bind fun t198 => (some (t198 == 90)))) else ((emit_Check.f k x184000 x184001 x184002 x184003 x184004 x184005 x184006 x184007 x184008 x184009).bind fun t199 => (some (t199 == 90))))) else ((emit_Check.f k x184000 x184001 x184002 x184003 x184004 x184005 x184006 x184007 x184008 x184009).bind fun t200 => (some (t200 == 90)))) else ((emit_Check.f k x184000 x184001 x184002 x184003 x184004 x184005 x184006 x184007 x184008 x184009).bind fun t201 => (some (t201 == 90)))) else ((emit_Check.f k x184000 x184001 x184002 x184003 x184004 x184005 x184006 x184007 x184008 x184009).bind fun t202 => (some (t202 == 90)))) else ((emit_Check.f k x184000 x184001 x184002 x184003 x184004 x184005 x184006 x184007 x184008 x184009).bind fun t203 => (some (t203 == 90)))) else ((emit_Check.f k x184000 x184001 x184002 x184003 x184004 x184005 x184006 x184007 x184008 x184009).bind fun t204 => (some (t204 == 90)))) else ((emit_Check.f k x184000 x184001 x184002 x184003 x184004 x184005 x184006 x184007 x184008 x184009).bind fun t205 => (some (t205 == 90)))) else ((emit_Check.f k x184000 x184001 x184002 x184003 x184004 x184005 x184006 x184007 x184008 x184009).bind fun t206 => (some (t206 == 90)))) else (if x184002 ≥ 1 then (if x184002 ≤ 4 then (if x184003 ≥ 0 then (if x184003 ≤ 4095 then (if x184004 ≥ 0 then (if x184005 ≥ 0 then (if x184007 ≥ 0 then (if x184002 = 1 then (if ((x184002 == 3) == (x184001.toList != ([] : List UInt8))) = true then (if x184000.toList = ([] : List UInt8) then ((emit_Check.f k x184000 x184001 x184002 x184003 x184004 x184005 x184006 x184007 x184008 x184009).bind fun t207 => (some (t207 == 90))) else (if x3 = true then (if (¬ (x3 = true)) then (some false) else ((emit_Check.f k x184000 x184001 x184002 x184003 x184004 x184005 x184006 x184007 x184008 x184009).bind fun t208 => (some (t208 == 90)))) else ((emit_Check.f k x184000 x184001 x184002 x184003 x184004 x184005 x184006 x184007 x184008 x184009).bind fun t209 => (if t209 = 0 then (some true) else (if (¬ (x3 = true)) then (some false) else ((emit_Check.f k x184000 x184001 x184002 x184003 x184004 x184005 x184006 x184007 x184008 x184009).bind fun t210 => (some (t210 == 90)))))))) else ((emit_Check.f k x184000 x184001 x184002 x184003 x184004 x184005 x184006 x184007 x184008 x184009).bind fun t211 => (some (t211 == 90)))) else (if x184007 = 0 then (if ((x184002 == 3) == (x184001.toList != ([] : List UInt8))) = true then (if x184000.toList = ([] : List UInt8) then ((emit_Check.f k x184000 x184001 x184002 x184003 x184004 x184005 x184006 x184007 x184008 x184009).bind fun t212 => (some (t212 == 90))) else (if x3 = true then (if (¬ (x3 = true)) then (some false) else ((emit_Check.f k x184000 x184001 x184002 x184003 x184004 x184005 x184006 x184007 x184008 x184009).bind fun t213 => (some (t213 == 90)))) else ((emit_Check.f k x184000 x184001 x184002 x184003 x184004 x184005 x184006 x184007 x184008 x184009).bind fun t214 => (if t214 = 0 then (some true) else (if (¬ (x3 = true)) then (some false) else ((emit_Check.f k x184000 x184001 x184002 x184003 x184004 x184005 x184006 x184007 x184008 x184009).bind fun t215 => (some (t215 == 90)))))))) else ((emit_Check.f k x184000 x184001 x184002 x184003 x184004 x184005 x184006 x184007 x184008 x184009).bind fun t216 => (some (t216 == 90)))) else ((emit_Check.f k x184000 x184001 x184002 x184003 x184004 x184005 x184006 x184007 x184008 x184009).bind fun t217 => (some (t217 == 90))))) else ((emit_Check.f k x184000 x184001 x184002 x184003 x184004 x184005 x184006 x184007 x184008 x184009).bind fun t218 => (some (t218 == 90)))) else ((emit_Check.f k x184000 x184001 x184002 x184003 x184004 x184005 x184006 x184007 x184008 x184009).bind fun t219 => (some (t219 == 90)))) else ((emit_Check.f k x184000 x184001 x184002 x184003 x184004 x184005 x184006 x184007 x184008 x184009).bind fun t220 => (some (t220 == 90)))) else ((emit_Check.f k x184000 x184001 x184002 x184003 x184004 x184005 x184006 x184007 x184008 x184009).bind fun t221 => (some (t221 == 90)))) else ((emit_Check.f k x184000 x184001 x184002 x184003 x184004 x184005 x184006 x184007 x184008 x184009).bind fun t222 => (some (t222 == 90)))) else ((emit_Check.f k x184000 x184001 x184002 x184003 x184004 x184005 x184006 x184007 x184008 x184009).bind fun t223 => (some (t223 == 90)))) else ((emit_Check.f k x184000 x184001 x184002 x184003 x184004 x184005 x184006 x184007 x184008 x184009).bind fun t224 => (some (t224 == 90)))))
def pannierlaw18_EmitChecks.l1 : Nat → Bool → ByteArray → List ByteArray → Int → Int → Int → Int → ByteArray → ByteArray → Int → Int → Int → Int → Int → Int → ByteArray → ByteArray → Option (Bool)
 | 0, _, _, _, _, _, _, _, _, _, _, _, _, _, _, _, _, _ => none
 | k + 1, x3, x5, x22, x23, x24, x29, x30, x184000, x184001, x184002, x184003, x184004, x184005, x184006, x184007, x184008, x184009 => if x30 < x29 then (if x3 = true then (pannierlaw18_EmitChecks.l1 k true x5 x22 x23 x24 x29 (wrap64 (x30 + 1)) x184000 x184001 x184002 x184003 x184004 x184005 x184006 x184007 x184008 x184009) else (if 0 ≤ x30 then (if x30 < (x5.size : Int) then (pannierlaw18_EmitChecks.l1 k ((bt x5 x30) == 0) x5 x22 x23 x24 x29 (wrap64 (x30 + 1)) x184000 x184001 x184002 x184003 x184004 x184005 x184006 x184007 x184008 x184009) else (none)) else (none))) else (pannierlaw18_EmitChecks.l0 k x3 x22 x23 (wrap64 (x24 + 1)) x184000 x184001 x184002 x184003 x184004 x184005 x184006 x184007 x184008 x184009)
end
def pannierlaw18_EmitChecks.f (k : Nat) (a0_0 : ByteArray) (a0_1 : ByteArray) (a0_2 : Int) (a0_3 : Int) (a0_4 : Int) (a0_5 : Int) (a0_6 : Int) (a0_7 : Int) (a0_8 : ByteArray) (a0_9 : ByteArray) : Option (Bool) := (pannierlaw18_writes.f k).bind fun t184 => (if t184 = true then ((pannierlaw18_fits.f a0_0 a0_1 a0_2 a0_3 a0_4 a0_5 a0_6 a0_7 a0_8 a0_9).bind fun t185 => (if t185 = true then ((some (([a0_0, a0_1, a0_8, a0_9] : List ByteArray) : List ByteArray)).bind fun y186 => (pannierlaw18_EmitChecks.l0 k false y186 (y186.length : Int) 0 a0_0 a0_1 a0_2 a0_3 a0_4 a0_5 a0_6 a0_7 a0_8 a0_9)) else (some true))) else (some false))
theorem pannierlaw18_EmitChecks.mono_l : ∀ k, (∀ y0 y1 y2 y3 y4 y5 y6 y7 y8 y9 y10 y11 y12 y13, LeO (pannierlaw18_EmitChecks.l0 k y0 y1 y2 y3 y4 y5 y6 y7 y8 y9 y10 y11 y12 y13) (pannierlaw18_EmitChecks.l0 (k + 1) y0 y1 y2 y3 y4 y5 y6 y7 y8 y9 y10 y11 y12 y13)) ∧ (∀ y0 y1 y2 y3 y4 y5 y6 y7 y8 y9 y10 y11 y12 y13 y14 y15 y16, LeO (pannierlaw18_EmitChecks.l1 k y0 y1 y2 y3 y4 y5 y6 y7 y8 y9 y10 y11 y12 y13 y14 y15 y16) (pannierlaw18_EmitChecks.l1 (k + 1) y0 y1 y2 y3 y4 y5 y6 y7 y8 y9 y10 y11 y12 y13 y14 y15 y16))
 | 0 => ⟨fun _ _ _ _ _ _ _ _ _ _ _ _ _ _ r h => by simp [pannierlaw18_EmitChecks.l0] at h, fun _ _ _ _ _ _ _ _ _ _ _ _ _ _ _ _ _ r h => by simp [pannierlaw18_EmitChecks.l1] at h⟩
 | k + 1 => by
  obtain ⟨ih0, ih1⟩ := pannierlaw18_EmitChecks.mono_l k
  refine ⟨?_, ?_⟩
  ·intro y0 y1 y2 y3 y4 y5 y6 y7 y8 y9 y10 y11 y12 y13
   unfold pannierlaw18_EmitChecks.l0
   repeat' first
   | (with_reducible exact ih0 _ _ _ _ _ _ _ _ _ _ _ _ _ _)
   | (with_reducible exact ih1 _ _ _ _ _ _ _ _ _ _ _ _ _ _ _ _ _)
   | (with_reducible exact emit_Check.mono _ _ _ _ _ _ _ _ _ _ _)
   | (with_reducible exact pannierlaw18_writes.mono _)
   | (with_reducible exact LeO.refl _)
   | (with_reducible exact LeO.none _)
   | (with_reducible refine LeO.ite ?_ ?_)
   | (with_reducible refine LeO.bind ?_ (fun _ => ?_))
   | exact ih0 _ _ _ _ _ _ _ _ _ _ _ _ _ _
   | exact ih1 _ _ _ _ _ _ _ _ _ _ _ _ _ _ _ _ _
   | exact emit_Check.mono _ _ _ _ _ _ _ _ _ _ _
   | exact pannierlaw18_writes.mono _
   | exact LeO.none _
   | refine LeO.ite ?_ ?_
   | refine LeO.bind ?_ (fun _ => ?_)
  ·intro y0 y1 y2 y3 y4 y5 y6 y7 y8 y9 y10 y11 y12 y13 y14 y15 y16
   unfold pannierlaw18_EmitChecks.l1
   repeat' first
   | (with_reducible exact ih0 _ _ _ _ _ _ _ _ _ _ _ _ _ _)
   | (with_reducible exact ih1 _ _ _ _ _ _ _ _ _ _ _ _ _ _ _ _ _)
   | (with_reducible exact emit_Check.mono _ _ _ _ _ _ _ _ _ _ _)
   | (with_reducible exact pannierlaw18_writes.mono _)
   | (with_reducible exact LeO.refl _)
   | (with_reducible exact LeO.none _)
   | (with_reducible refine LeO.ite ?_ ?_)
   | (with_reducible refine LeO.bind ?_ (fun _ => ?_))
   | exact ih0 _ _ _ _ _ _ _ _ _ _ _ _ _ _
   | exact ih1 _ _ _ _ _ _ _ _ _ _ _ _ _ _ _ _ _
   | exact emit_Check.mono _ _ _ _ _ _ _ _ _ _ _
   | exact pannierlaw18_writes.mono _
   | exact LeO.none _
   | refine LeO.ite ?_ ?_
   | refine LeO.bind ?_ (fun _ => ?_)
theorem pannierlaw18_EmitChecks.mono : ∀ a0 a1 a2 a3 a4 a5 a6 a7 a8 a9 k, LeO (pannierlaw18_EmitChecks.f k a0 a1 a2 a3 a4 a5 a6 a7 a8 a9) (pannierlaw18_EmitChecks.f (k + 1) a0 a1 a2 a3 a4 a5 a6 a7 a8 a9) := by
 intro a0 a1 a2 a3 a4 a5 a6 a7 a8 a9 k
 obtain ⟨ih0, ih1⟩ := pannierlaw18_EmitChecks.mono_l k
 unfold pannierlaw18_EmitChecks.f
 repeat' first
   | (with_reducible exact ih0 _ _ _ _ _ _ _ _ _ _ _ _ _ _)
   | (with_reducible exact ih1 _ _ _ _ _ _ _ _ _ _ _ _ _ _ _ _ _)
   | (with_reducible exact emit_Check.mono _ _ _ _ _ _ _ _ _ _ _)
   | (with_reducible exact pannierlaw18_writes.mono _)
   | (with_reducible exact LeO.refl _)
   | (with_reducible exact LeO.none _)
   | (with_reducible refine LeO.ite ?_ ?_)
   | (with_reducible refine LeO.bind ?_ (fun _ => ?_))
   | exact ih0 _ _ _ _ _ _ _ _ _ _ _ _ _ _
   | exact ih1 _ _ _ _ _ _ _ _ _ _ _ _ _ _ _ _ _
   | exact emit_Check.mono _ _ _ _ _ _ _ _ _ _ _
   | exact pannierlaw18_writes.mono _
   | exact LeO.none _
   | refine LeO.ite ?_ ?_
   | refine LeO.bind ?_ (fun _ => ?_)
set_option maxHeartbeats 8000000 in
set_option maxRecDepth 100000 in
theorem pannierlaw18_EmitChecks.calls (k : Nat) (a0_0 : ByteArray) (a0_1 : ByteArray) (a0_2 : Int) (a0_3 : Int) (a0_4 : Int) (a0_5 : Int) (a0_6 : Int) (a0_7 : Int) (a0_8 : ByteArray) (a0_9 : ByteArray) (r : Bool) (w : World) (hE_ : EnvE w) (h : pannierlaw18_EmitChecks.f k a0_0 a0_1 a0_2 a0_3 a0_4 a0_5 a0_6 a0_7 a0_8 a0_9 = some r) :
  Calls Tryd.prog 5 #[.agg #[.string a0_0, .string a0_1, .int .i64 a0_2, .int .i64 a0_3, .int .i64 a0_4, .int .i64 a0_5, .int .i64 a0_6, .int .i64 a0_7, .string a0_8, .string a0_9]] w fun e w' => e = .returned (.bool r) ∧ Below w.heap.size w w' := by
 have HE_ := Aside0.mk hE_
 clear hE_
 have hu23 := Tryd.underlying23
 have HB := Aside0.mk (Below.refl w.heap.size w)
 have H : ((pannierlaw18_writes.f k).bind fun t184 => (if t184 = true then ((pannierlaw18_fits.f a0_0 a0_1 a0_2 a0_3 a0_4 a0_5 a0_6 a0_7 a0_8 a0_9).bind fun t185 => (if t185 = true then ((some (([a0_0, a0_1, a0_8, a0_9] : List ByteArray) : List ByteArray)).bind fun y186 => (pannierlaw18_EmitChecks.l0 k false y186 (y186.length : Int) 0 a0_0 a0_1 a0_2 a0_3 a0_4 a0_5 a0_6 a0_7 a0_8 a0_9)) else (some true))) else (some false))) = some r := h
 clear h
 replace H := Option.bind_eq_some_iff.mp H
 obtain ⟨t184, A20, H⟩ := H
 replace H : (if t184 = true then ((pannierlaw18_fits.f a0_0 a0_1 a0_2 a0_3 a0_4 a0_5 a0_6 a0_7 a0_8 a0_9).bind fun t185 => (if t185 = true then ((some (([a0_0, a0_1, a0_8, a0_9] : List ByteArray) : List ByteArray)).bind fun y186 => (pannierlaw18_EmitChecks.l0 k false y186 (y186.length : Int) 0 a0_0 a0_1 a0_2 a0_3 a0_4 a0_5 a0_6 a0_7 a0_8 a0_9)) else (some true))) else (some false)) = some r := H
 have A2 := Aside0.mk A20
 clear A20
 by_cases c3 : t184 = true
 ·subst c3
  have H1 : ((pannierlaw18_fits.f a0_0 a0_1 a0_2 a0_3 a0_4 a0_5 a0_6 a0_7 a0_8 a0_9).bind fun t185 => (if t185 = true then ((some (([a0_0, a0_1, a0_8, a0_9] : List ByteArray) : List ByteArray)).bind fun y186 => (pannierlaw18_EmitChecks.l0 k false y186 (y186.length : Int) 0 a0_0 a0_1 a0_2 a0_3 a0_4 a0_5 a0_6 a0_7 a0_8 a0_9)) else (some true))) = some r := by rw [if_pos rfl] at H; exact H
  clear H
  have H := H1
  clear H1
  replace H := Option.bind_eq_some_iff.mp H
  obtain ⟨t185, A40, H⟩ := H
  replace H : (if t185 = true then ((some (([a0_0, a0_1, a0_8, a0_9] : List ByteArray) : List ByteArray)).bind fun y186 => (pannierlaw18_EmitChecks.l0 k false y186 (y186.length : Int) 0 a0_0 a0_1 a0_2 a0_3 a0_4 a0_5 a0_6 a0_7 a0_8 a0_9)) else (some true)) = some r := H
  have A4 := Aside0.mk A40
  clear A40
  by_cases c5 : t185 = true
  ·subst c5
   have H1 : ((some (([a0_0, a0_1, a0_8, a0_9] : List ByteArray) : List ByteArray)).bind fun y186 => (pannierlaw18_EmitChecks.l0 k false y186 (y186.length : Int) 0 a0_0 a0_1 a0_2 a0_3 a0_4 a0_5 a0_6 a0_7 a0_8 a0_9)) = some r := by rw [if_pos rfl] at H; exact H
   clear H
   have H := H1
   clear H1
   obtain ⟨y186, hy186⟩ : ∃ y_ : List ByteArray, y_ = (([a0_0, a0_1, a0_8, a0_9] : List ByteArray)) := ⟨_, rfl⟩
   replace H : (pannierlaw18_EmitChecks.l0 k false y186 (y186.length : Int) 0 a0_0 a0_1 a0_2 a0_3 a0_4 a0_5 a0_6 a0_7 a0_8 a0_9) = some r := by first | (rw [hy186]; with_reducible exact H) | (have H2_ := (Option.bind_some _ _).symm.trans H; rw [hy186]; with_reducible exact H2_) | (have H2_ := (Option.bind_some _ _).symm.trans H; with_reducible exact H2_) | with_reducible exact H | (rw [hy186]; exact H) | exact H
   have Ny186 := Aside0.mk hy186
   clear hy186
   have H' := Aside0.mk H
   clear H
   go_enter Tryd.func5, Tryd.ntmps5
   go_wp2_with (first | ((with_reducible refine gate_dst (N := 1) rfl ?_); refine box_event ?hg (N := 1) ?hd (cs := #[.string a0_0, .string a0_1, .int .i64 a0_2, .int .i64 a0_3, .int .i64 a0_4, .int .i64 a0_5, .int .i64 a0_6, .int .i64 a0_7, .string a0_8, .string a0_9]) (t := 23) ?hr ?_; (case hd => rfl); (case hg => rfl); (case hr => first | (go_simp; done) | (go_simp; rfl)); intro gb183 hg w6 hbox hb; have n0_ := Aside0.mk (below_step (by repeat (first | (with_reducible first | exact HB.out | apply below_alloc | apply pw_below_drewN | apply below_drew1) | exact HB.out)) hb); have n1_ := Aside0.mk (hbox); have n2_ := Aside0.mk ((by rw [hg]; exact (below_size (by repeat (first | (with_reducible first | exact HB.out | apply below_alloc | apply pw_below_drewN | apply below_drew1) | exact HB.out))) : w.heap.size ≤ gb183)); have n3_ := Aside0.mk ((by rw [hg]; exact (below_size (by repeat (first | (with_reducible first | exact HB.out | apply below_alloc | apply pw_below_drewN | apply below_drew1) | exact HB.out))) : w.heap.size ≤ gb183)); clear HB; have HB := n0_; have BK183 := n1_; have GW183 := n2_; have GE183 := n3_; clear n0_ n1_ n2_ n3_; clear hb hbox hg) | ((with_reducible refine gate_callee (f := 6) rfl ?_); refine goesL_ (some 9) rfl rfl Tryd.func6 (by kernel_rfl) rfl #[] rfl (by (try simp only [List.map_toArray, List.map_cons, List.map_nil]); first | done | rfl | (simp only [List.length_drop, List.length_take]; rfl)) ?_; (with_reducible refine (pannierlaw18_writes.calls k  true _ ?side1 A2.out).mono ?_); (case side1 => exact HE_.out.below (by repeat (first | (with_reducible first | exact HB.out | apply below_alloc | apply pw_below_drewN | apply below_drew1 | refine below_set ?_ GE183.out) | exact HB.out))); rintro e w7 ⟨rfl, hb⟩; refine ⟨_, rfl, ?_⟩; have n0_ := Aside0.mk (blk_below (g := gb183) (o := .cells #[.string a0_0, .string a0_1, .int .i64 a0_2, .int .i64 a0_3, .int .i64 a0_4, .int .i64 a0_5, .int .i64 a0_6, .int .i64 a0_7, .string a0_8, .string a0_9] 23 (0, 0)) (by (with_reducible repeat (first | refine blk_drewN ?_ _ | refine blk_drew ?_ | refine blk_alloc ?_ _)); exact BK183.out) hb); have n1_ := Aside0.mk (below_step (by repeat (first | (with_reducible first | exact HB.out | apply below_alloc | apply pw_below_drewN | apply below_drew1 | refine below_set ?_ GE183.out) | exact HB.out)) hb); clear BK183; clear HB; have BK183 := n0_; have HB := n1_; clear n0_ n1_; (try clear hb); (try clear hb2); (try clear hk); (try clear hi); have hcz8_0 : w7.cell? ⟨gb183, 0, none⟩ = some (.string a0_0) := (blk_cell BK183.out 0).trans rfl; have hcz8_1 : w7.cell? ⟨gb183, 1, none⟩ = some (.string a0_1) := (blk_cell BK183.out 1).trans rfl; have hcz8_2 : w7.cell? ⟨gb183, 2, none⟩ = some (.int .i64 a0_2) := (blk_cell BK183.out 2).trans rfl; have hcz8_3 : w7.cell? ⟨gb183, 3, none⟩ = some (.int .i64 a0_3) := (blk_cell BK183.out 3).trans rfl; have hcz8_4 : w7.cell? ⟨gb183, 4, none⟩ = some (.int .i64 a0_4) := (blk_cell BK183.out 4).trans rfl; have hcz8_5 : w7.cell? ⟨gb183, 5, none⟩ = some (.int .i64 a0_5) := (blk_cell BK183.out 5).trans rfl; have hcz8_6 : w7.cell? ⟨gb183, 6, none⟩ = some (.int .i64 a0_6) := (blk_cell BK183.out 6).trans rfl; have hcz8_7 : w7.cell? ⟨gb183, 7, none⟩ = some (.int .i64 a0_7) := (blk_cell BK183.out 7).trans rfl; have hcz8_8 : w7.cell? ⟨gb183, 8, none⟩ = some (.string a0_8) := (blk_cell BK183.out 8).trans rfl; have hcz8_9 : w7.cell? ⟨gb183, 9, none⟩ = some (.string a0_9) := (blk_cell BK183.out 9).trans rfl; have hfz8_0 := blk_frozen BK183.out 0; have hfz8_1 := blk_frozen BK183.out 1; have hfz8_2 := blk_frozen BK183.out 2; have hfz8_3 := blk_frozen BK183.out 3; have hfz8_4 := blk_frozen BK183.out 4; have hfz8_5 := blk_frozen BK183.out 5; have hfz8_6 := blk_frozen BK183.out 6; have hfz8_7 := blk_frozen BK183.out 7; have hfz8_8 := blk_frozen BK183.out 8; have hfz8_9 := blk_frozen BK183.out 9) | ((with_reducible refine gate_callee (f := 7) rfl ?_); refine goesL_ (some 12) rfl rfl Tryd.func7 (by kernel_rfl) rfl #[.agg #[.string a0_0, .string a0_1, .int .i64 a0_2, .int .i64 a0_3, .int .i64 a0_4, .int .i64 a0_5, .int .i64 a0_6, .int .i64 a0_7, .string a0_8, .string a0_9]] rfl (by (try simp only [List.map_toArray, List.map_cons, List.map_nil]); first | done | rfl | (simp only [List.length_drop, List.length_take]; rfl)) ?_; (with_reducible refine (pannierlaw18_fits.calls a0_0 a0_1 a0_2 a0_3 a0_4 a0_5 a0_6 a0_7 a0_8 a0_9 true _ A4.out).mono ?_); rintro e w9 ⟨rfl, hb⟩; refine ⟨_, rfl, ?_⟩; have n0_ := Aside0.mk (blk_below (g := gb183) (o := .cells #[.string a0_0, .string a0_1, .int .i64 a0_2, .int .i64 a0_3, .int .i64 a0_4, .int .i64 a0_5, .int .i64 a0_6, .int .i64 a0_7, .string a0_8, .string a0_9] 23 (0, 0)) (by (with_reducible repeat (first | refine blk_drewN ?_ _ | refine blk_drew ?_ | refine blk_alloc ?_ _)); exact BK183.out) hb); have n1_ := Aside0.mk (below_step (by repeat (first | (with_reducible first | exact HB.out | apply below_alloc | apply pw_below_drewN | apply below_drew1 | refine below_set ?_ GE183.out) | exact HB.out)) hb); clear BK183; clear HB; have BK183 := n0_; have HB := n1_; clear n0_ n1_; (try clear hb); (try clear hb2); (try clear hk); (try clear hi); have hcz10_0 : w9.cell? ⟨gb183, 0, none⟩ = some (.string a0_0) := (blk_cell BK183.out 0).trans rfl; have hcz10_1 : w9.cell? ⟨gb183, 1, none⟩ = some (.string a0_1) := (blk_cell BK183.out 1).trans rfl; have hcz10_2 : w9.cell? ⟨gb183, 2, none⟩ = some (.int .i64 a0_2) := (blk_cell BK183.out 2).trans rfl; have hcz10_3 : w9.cell? ⟨gb183, 3, none⟩ = some (.int .i64 a0_3) := (blk_cell BK183.out 3).trans rfl; have hcz10_4 : w9.cell? ⟨gb183, 4, none⟩ = some (.int .i64 a0_4) := (blk_cell BK183.out 4).trans rfl; have hcz10_5 : w9.cell? ⟨gb183, 5, none⟩ = some (.int .i64 a0_5) := (blk_cell BK183.out 5).trans rfl; have hcz10_6 : w9.cell? ⟨gb183, 6, none⟩ = some (.int .i64 a0_6) := (blk_cell BK183.out 6).trans rfl; have hcz10_7 : w9.cell? ⟨gb183, 7, none⟩ = some (.int .i64 a0_7) := (blk_cell BK183.out 7).trans rfl; have hcz10_8 : w9.cell? ⟨gb183, 8, none⟩ = some (.string a0_8) := (blk_cell BK183.out 8).trans rfl; have hcz10_9 : w9.cell? ⟨gb183, 9, none⟩ = some (.string a0_9) := (blk_cell BK183.out 9).trans rfl; have hfz10_0 := blk_frozen BK183.out 0; have hfz10_1 := blk_frozen BK183.out 1; have hfz10_2 := blk_frozen BK183.out 2; have hfz10_3 := blk_frozen BK183.out 3; have hfz10_4 := blk_frozen BK183.out 4; have hfz10_5 := blk_frozen BK183.out 5; have hfz10_6 := blk_frozen BK183.out 6; have hfz10_7 := blk_frozen BK183.out 7; have hfz10_8 := blk_frozen BK183.out 8; have hfz10_9 := blk_frozen BK183.out 9) | ((with_reducible refine gate_dst (N := 22) rfl ?_); refine Kd.R_lit Kd.string _ 9 ?hg (N := 22) ?hd (xs := ([a0_0, a0_1, a0_8, a0_9] : List ByteArray)) (inner := [.string a0_0, .string a0_1, .string a0_8, .string a0_9]) (ok := fun _ => True) (okp := fun _ => True) ?hr ?hp (fun _ hk => hk) trivial (Below.refl _ _) (Nat.le_refl _) (by simp) ?_; (case hd => rfl); (case hg => rfl); (case hr => first | (go_simp; done) | (go_simp; rfl)); (case hp => exact (Reps.one (show Kd.M Kd.string _ _ _ a0_0 [.string a0_0] from rfl) (Reps.one (show Kd.M Kd.string _ _ _ a0_1 [.string a0_1] from rfl) (Reps.one (show Kd.M Kd.string _ _ _ a0_8 [.string a0_8] from rfl) (Reps.one (show Kd.M Kd.string _ _ _ a0_9 [.string a0_9] from rfl) (Reps.none _ _)))))); intro v187 w11 ho12 hb hg_ hnew_; clear hg_ hnew_; (first | rw [← Ny186.out] at ho12 | (simp only [Int.reduceToNat] at ho12; rw [← Ny186.out] at ho12)); have n0_ := Aside0.mk (Kd.R_lower ho12 (below_size (by repeat (first | (with_reducible first | exact HB.out | apply below_alloc | apply pw_below_drewN | apply below_drew1 | refine below_set ?_ GE183.out) | exact HB.out)))); have n1_ := Aside0.mk (blk_below (g := gb183) (o := .cells #[.string a0_0, .string a0_1, .int .i64 a0_2, .int .i64 a0_3, .int .i64 a0_4, .int .i64 a0_5, .int .i64 a0_6, .int .i64 a0_7, .string a0_8, .string a0_9] 23 (0, 0)) (by (with_reducible repeat (first | refine blk_drewN ?_ _ | refine blk_drew ?_ | refine blk_alloc ?_ _)); exact BK183.out) hb); have n2_ := Aside0.mk (below_step (by repeat (first | (with_reducible first | exact HB.out | apply below_alloc | apply pw_below_drewN | apply below_drew1 | refine below_set ?_ GE183.out) | exact HB.out)) hb); clear BK183; clear HB; have HO188 := n0_; have BK183 := n1_; have HB := n2_; clear n0_ n1_ n2_; clear hb ho12; obtain ⟨Ao13, co13, eo13⟩ := Kd.R_slice HO188.out; subst eo13))
   go_loopg [3, 24] k (fun kq v3 v24 w' => ∃ (x3_1 : Bool) (x24_1 : Int), v3 = .bool x3_1 ∧ v24 = .int .i64 x24_1 ∧ Aside0 (pannierlaw18_EmitChecks.l0 kq x3_1 y186 (y186.length : Int) x24_1 a0_0 a0_1 a0_2 a0_3 a0_4 a0_5 a0_6 a0_7 a0_8 a0_9 = some r) ∧ Aside0 (kq ≤ k) ∧ Aside0 (Kd.R Kd.string 9 w' w.heap.size (fun _ => True) (.slice Ao13 y186.length co13) y186) ∧ Aside0 (w'.heap[gb183]? = some (.cells #[.string a0_0, .string a0_1, .int .i64 a0_2, .int .i64 a0_3, .int .i64 a0_4, .int .i64 a0_5, .int .i64 a0_6, .int .i64 a0_7, .string a0_8, .string a0_9] 23 (0, 0))) ∧ Aside0 (Below w.heap.size w w'))
   case atStart => exact ⟨(false), (0), (by first | rfl | (simp; done) | (simp; exact (fun l_ : List UInt8 => (by cases l_ <;> rfl : l_.isEmpty = !(l_ != []))) _) | (simp; exact (fun (x_ : Bool) (l_ : List UInt8) => (by cases x_ <;> cases l_ <;> rfl : (x_ == !l_.isEmpty) = !(x_ != (l_ != [])))) _ _) | (simp [*]; done)), (by first | rfl | (simp; done) | (simp; exact (fun l_ : List UInt8 => (by cases l_ <;> rfl : l_.isEmpty = !(l_ != []))) _) | (simp; exact (fun (x_ : Bool) (l_ : List UInt8) => (by cases x_ <;> cases l_ <;> rfl : (x_ == !l_.isEmpty) = !(x_ != (l_ != [])))) _ _) | (simp [*]; done)), H', ⟨Nat.le_refl _⟩, ⟨by (with_reducible repeat (first | apply Kd.R_alloc | apply Kd.R_drewN | apply Kd.R_drew)); exact HO188.out⟩, ⟨by (with_reducible repeat (first | refine blk_drewN ?_ _ | refine blk_drew ?_ | refine blk_alloc ?_ _)); exact BK183.out⟩, ⟨by repeat (first | (with_reducible first | exact HB.out | apply below_alloc | apply pw_below_drewN | apply below_drew1 | refine below_set ?_ GE183.out) | exact HB.out)⟩⟩
   case round =>
    clear H'
    try clear p2
    try clear c3
    try clear c5
    try clear c6
    try clear c7
    try clear hcz10_0
    try clear hcz10_1
    try clear hcz10_2
    try clear hcz10_3
    try clear hcz10_4
    try clear hcz10_5
    try clear hcz10_6
    try clear hcz10_7
    try clear hcz10_8
    try clear hcz10_9
    try clear hcz8_0
    try clear hcz8_1
    try clear hcz8_2
    try clear hcz8_3
    try clear hcz8_4
    try clear hcz8_5
    try clear hcz8_6
    try clear hcz8_7
    try clear hcz8_8
    try clear hcz8_9
    try clear hfz10_0
    try clear hfz10_1
    try clear hfz10_2
    try clear hfz10_3
    try clear hfz10_4
    try clear hfz10_5
    try clear hfz10_6
    try clear hfz10_7
    try clear hfz10_8
    try clear hfz10_9
    try clear hfz8_0
    try clear hfz8_1
    try clear hfz8_2
    try clear hfz8_3
    try clear hfz8_4
    try clear hfz8_5
    try clear hfz8_6
    try clear hfz8_7
    try clear hfz8_8
    try clear hfz8_9
    obtain ⟨x3_1, x24_1, rfl, rfl, HA, HK1, HO_22, BK183, HB⟩ := hrel
    cases gk with
    | zero => exact absurd HA.out (by simp [pannierlaw18_EmitChecks.l0])
    | succ k1 =>
     have H := HA.out
     clear HA
     simp only [pannierlaw18_EmitChecks.l0] at H
     by_cases c14 : x24_1 < (y186.length : Int)
     ·rw [if_pos c14] at H
      have c14b0 : decide (x24_1 < (y186.length : Int)) = true := decide_eq_true c14
      clear c14
      by_cases c15 : 0 ≤ x24_1
      ·rw [if_pos c15] at H
       have c15b0 : decide (0 ≤ x24_1) = true := decide_eq_true c15
       clear c15
       by_cases c16 : x24_1 < (y186.length : Int)
       ·rw [if_pos c16] at H
        have c16b0 : decide (x24_1 < (y186.length : Int)) = true := decide_eq_true c16
        clear c16
        have H' := Aside0.mk H
        clear H
        have p225 : 0 ≤ (x24_1 : Int) := of_decide_eq_true (by first | (with_reducible assumption) | assumption)
        have q225 : x24_1 < (y186.length : Int) := of_decide_eq_true (by first | (with_reducible assumption) | assumption)
        obtain ⟨ad225, e225, hx225_0⟩ := Kd.at_string (Kd.R_reads' HO_22.out).2.2 x24_1 p225 q225
        cases e225
        replace p225 := eq_true p225
        replace q225 := eq_true q225
        go_wp2
        go_loopg [3, 30] k1 (fun kq v3 v30 w' => ∃ (x3_2 : Bool) (x30_2 : Int), v3 = .bool x3_2 ∧ v30 = .int .i64 x30_2 ∧ Aside0 (pannierlaw18_EmitChecks.l1 kq x3_2 (rdOf ByteArray.empty y186 x24_1) y186 (y186.length : Int) x24_1 ((rdOf ByteArray.empty y186 x24_1).size : Int) x30_2 a0_0 a0_1 a0_2 a0_3 a0_4 a0_5 a0_6 a0_7 a0_8 a0_9 = some r) ∧ Aside0 (kq ≤ k1) ∧ Aside0 (Kd.R Kd.string 9 w' w.heap.size (fun _ => True) (.slice (some ad225) y186.length co13) y186) ∧ Aside0 (w'.heap[gb183]? = some (.cells #[.string a0_0, .string a0_1, .int .i64 a0_2, .int .i64 a0_3, .int .i64 a0_4, .int .i64 a0_5, .int .i64 a0_6, .int .i64 a0_7, .string a0_8, .string a0_9] 23 (0, 0))) ∧ Aside0 (Below w.heap.size w w'))
        case atStart => exact ⟨(x3_1), (0), (by first | rfl | (simp; done) | (simp; exact (fun l_ : List UInt8 => (by cases l_ <;> rfl : l_.isEmpty = !(l_ != []))) _) | (simp; exact (fun (x_ : Bool) (l_ : List UInt8) => (by cases x_ <;> cases l_ <;> rfl : (x_ == !l_.isEmpty) = !(x_ != (l_ != [])))) _ _) | (simp [*]; done)), (by first | rfl | (simp; done) | (simp; exact (fun l_ : List UInt8 => (by cases l_ <;> rfl : l_.isEmpty = !(l_ != []))) _) | (simp; exact (fun (x_ : Bool) (l_ : List UInt8) => (by cases x_ <;> cases l_ <;> rfl : (x_ == !l_.isEmpty) = !(x_ != (l_ != [])))) _ _) | (simp [*]; done)), H', ⟨Nat.le_refl _⟩, ⟨by (with_reducible repeat (first | apply Kd.R_alloc | apply Kd.R_drewN | apply Kd.R_drew)); exact HO_22.out⟩, ⟨by (with_reducible repeat (first | refine blk_drewN ?_ _ | refine blk_drew ?_ | refine blk_alloc ?_ _)); exact BK183.out⟩, ⟨by repeat (first | (with_reducible first | exact HB.out | apply below_alloc | apply pw_below_drewN | apply below_drew1 | refine below_set ?_ GE183.out) | exact HB.out)⟩⟩
        case round =>
         clear H'
         try clear c1
         try clear p2
         try clear q2
         try clear hx2
         try clear c3
         try clear c5
         try clear c6
         try clear c7
         try clear c14
         try clear c14b0
         try clear c15
         try clear c15b0
         try clear c16
         try clear c16b0
         try clear hcz10_0
         try clear hcz10_1
         try clear hcz10_2
         try clear hcz10_3
         try clear hcz10_4
         try clear hcz10_5
         try clear hcz10_6
         try clear hcz10_7
         try clear hcz10_8
         try clear hcz10_9
         try clear hcz8_0
         try clear hcz8_1
         try clear hcz8_2
         try clear hcz8_3
         try clear hcz8_4
         try clear hcz8_5
         try clear hcz8_6
         try clear hcz8_7
         try clear hcz8_8
         try clear hcz8_9
         try clear hfz10_0
         try clear hfz10_1
         try clear hfz10_2
         try clear hfz10_3
         try clear hfz10_4
         try clear hfz10_5
         try clear hfz10_6
         try clear hfz10_7
         try clear hfz10_8
         try clear hfz10_9
         try clear hfz8_0
         try clear hfz8_1
         try clear hfz8_2
         try clear hfz8_3
         try clear hfz8_4
         try clear hfz8_5
         try clear hfz8_6
         try clear hfz8_7
         try clear hfz8_8
         try clear hfz8_9
         try clear hx225_0
         try clear p2
         try clear p225
         try clear q225
         obtain ⟨x3_2, x30_2, rfl, rfl, HA, HK2, HO_22, BK183, HB⟩ := hrel
         cases gk with
         | zero => exact absurd HA.out (by simp [pannierlaw18_EmitChecks.l1])
         | succ k2 =>
          have H := HA.out
          clear HA
          simp only [pannierlaw18_EmitChecks.l1] at H
          by_cases c17 : x30_2 < ((rdOf ByteArray.empty y186 x24_1).size : Int)
          ·rw [if_pos c17] at H
           have c17b0 : decide (x30_2 < ((rdOf ByteArray.empty y186 x24_1).size : Int)) = true := decide_eq_true c17
           clear c17
           by_cases c18 : x3_2 = true
           ·subst c18
            have H1 : (pannierlaw18_EmitChecks.l1 k2 true (rdOf ByteArray.empty y186 x24_1) y186 (y186.length : Int) x24_1 ((rdOf ByteArray.empty y186 x24_1).size : Int) (wrap64 (x30_2 + 1)) a0_0 a0_1 a0_2 a0_3 a0_4 a0_5 a0_6 a0_7 a0_8 a0_9) = some r := by rw [if_pos rfl] at H; exact H
            clear H
            have H := H1
            clear H1
            have H' := Aside0.mk H
            clear H
            go_wp2
            go_roundg k2
            case measure => have := HK1.out; have := HK2.out; omega
            case rel => exact ⟨(true), (wrap64 (x30_2 + 1)), (by first | rfl | (simp; done) | (simp; exact (fun l_ : List UInt8 => (by cases l_ <;> rfl : l_.isEmpty = !(l_ != []))) _) | (simp; exact (fun (x_ : Bool) (l_ : List UInt8) => (by cases x_ <;> cases l_ <;> rfl : (x_ == !l_.isEmpty) = !(x_ != (l_ != [])))) _ _) | (simp [*]; done)), (by first | rfl | (simp; done) | (simp; exact (fun l_ : List UInt8 => (by cases l_ <;> rfl : l_.isEmpty = !(l_ != []))) _) | (simp; exact (fun (x_ : Bool) (l_ : List UInt8) => (by cases x_ <;> cases l_ <;> rfl : (x_ == !l_.isEmpty) = !(x_ != (l_ != [])))) _ _) | (simp [*]; done)), H', ⟨by have := HK1.out; have := HK2.out; omega⟩, ⟨by (with_reducible repeat (first | apply Kd.R_alloc | apply Kd.R_drewN | apply Kd.R_drew)); exact HO_22.out⟩, ⟨by (with_reducible repeat (first | refine blk_drewN ?_ _ | refine blk_drew ?_ | refine blk_alloc ?_ _)); exact BK183.out⟩, ⟨by repeat (first | (with_reducible first | exact HB.out | apply below_alloc | apply pw_below_drewN | apply below_drew1 | refine below_set ?_ GE183.out) | exact HB.out)⟩⟩
           ·replace c18 := Bool.eq_false_iff.mpr c18
            subst c18
            have H1 : (if 0 ≤ x30_2 then (if x30_2 < ((rdOf ByteArray.empty y186 x24_1).size : Int) then (pannierlaw18_EmitChecks.l1 k2 ((bt (rdOf ByteArray.empty y186 x24_1) x30_2) == 0) (rdOf ByteArray.empty y186 x24_1) y186 (y186.length : Int) x24_1 ((rdOf ByteArray.empty y186 x24_1).size : Int) (wrap64 (x30_2 + 1)) a0_0 a0_1 a0_2 a0_3 a0_4 a0_5 a0_6 a0_7 a0_8 a0_9) else (none)) else (none)) = some r := by rw [if_neg (show ¬ (false = true) by decide)] at H; exact H
            clear H
            have H := H1
            clear H1
            by_cases c19 : 0 ≤ x30_2
            ·rw [if_pos c19] at H
             have c19b0 : decide (0 ≤ x30_2) = true := decide_eq_true c19
             clear c19
             by_cases c20 : x30_2 < ((rdOf ByteArray.empty y186 x24_1).size : Int)
             ·rw [if_pos c20] at H
              have c20b0 : decide (x30_2 < ((rdOf ByteArray.empty y186 x24_1).size : Int)) = true := decide_eq_true c20
              clear c20
              have H' := Aside0.mk H
              clear H
              have p21 : 0 ≤ (x30_2 : Int) := of_decide_eq_true (by first | (with_reducible assumption) | assumption)
              have q21 : x30_2 < ((rdOf ByteArray.empty y186 x24_1).size : Int) := of_decide_eq_true (by first | (with_reducible assumption) | assumption)
              have hx21 := bt_at (rdOf ByteArray.empty y186 x24_1) x30_2
              replace p21 := eq_true p21
              replace q21 := eq_true q21
              go_wp2
              go_roundg k2
              case measure => have := HK1.out; have := HK2.out; omega
              case rel => exact ⟨(((bt (rdOf ByteArray.empty y186 x24_1) x30_2) == 0)), (wrap64 (x30_2 + 1)), (by first | rfl | (simp; done) | (simp; exact (fun l_ : List UInt8 => (by cases l_ <;> rfl : l_.isEmpty = !(l_ != []))) _) | (simp; exact (fun (x_ : Bool) (l_ : List UInt8) => (by cases x_ <;> cases l_ <;> rfl : (x_ == !l_.isEmpty) = !(x_ != (l_ != [])))) _ _) | (simp [*]; done)), (by first | rfl | (simp; done) | (simp; exact (fun l_ : List UInt8 => (by cases l_ <;> rfl : l_.isEmpty = !(l_ != []))) _) | (simp; exact (fun (x_ : Bool) (l_ : List UInt8) => (by cases x_ <;> cases l_ <;> rfl : (x_ == !l_.isEmpty) = !(x_ != (l_ != [])))) _ _) | (simp [*]; done)), H', ⟨by have := HK1.out; have := HK2.out; omega⟩, ⟨by (with_reducible repeat (first | apply Kd.R_alloc | apply Kd.R_drewN | apply Kd.R_drew)); exact HO_22.out⟩, ⟨by (with_reducible repeat (first | refine blk_drewN ?_ _ | refine blk_drew ?_ | refine blk_alloc ?_ _)); exact BK183.out⟩, ⟨by repeat (first | (with_reducible first | exact HB.out | apply below_alloc | apply pw_below_drewN | apply below_drew1 | refine below_set ?_ GE183.out) | exact HB.out)⟩⟩
             ·rw [if_neg c20] at H
              exact absurd H (by simp)
            ·rw [if_neg c19] at H
             exact absurd H (by simp)
          ·rw [if_neg c17] at H
           have c17b0 : decide (x30_2 < ((rdOf ByteArray.empty y186 x24_1).size : Int)) = false := decide_eq_false c17
           clear c17
           have H' := Aside0.mk H
           clear H
           go_wp2
           go_roundg k2
           case measure => have := HK1.out; have := HK2.out; omega
           case rel => exact ⟨(x3_2), (wrap64 (x24_1 + 1)), (by first | rfl | (simp; done) | (simp; exact (fun l_ : List UInt8 => (by cases l_ <;> rfl : l_.isEmpty = !(l_ != []))) _) | (simp; exact (fun (x_ : Bool) (l_ : List UInt8) => (by cases x_ <;> cases l_ <;> rfl : (x_ == !l_.isEmpty) = !(x_ != (l_ != [])))) _ _) | (simp [*]; done)), (by first | rfl | (simp; done) | (simp; exact (fun l_ : List UInt8 => (by cases l_ <;> rfl : l_.isEmpty = !(l_ != []))) _) | (simp; exact (fun (x_ : Bool) (l_ : List UInt8) => (by cases x_ <;> cases l_ <;> rfl : (x_ == !l_.isEmpty) = !(x_ != (l_ != [])))) _ _) | (simp [*]; done)), H', ⟨by have := HK1.out; have := HK2.out; omega⟩, ⟨by (with_reducible repeat (first | apply Kd.R_alloc | apply Kd.R_drewN | apply Kd.R_drew)); exact HO_22.out⟩, ⟨by (with_reducible repeat (first | refine blk_drewN ?_ _ | refine blk_drew ?_ | refine blk_alloc ?_ _)); exact BK183.out⟩, ⟨by repeat (first | (with_reducible first | exact HB.out | apply below_alloc | apply pw_below_drewN | apply below_drew1 | refine below_set ?_ GE183.out) | exact HB.out)⟩⟩
       ·rw [if_neg c16] at H
        exact absurd H (by simp)
      ·rw [if_neg c15] at H
       exact absurd H (by simp)
     ·rw [if_neg c14] at H
      have c14b0 : decide (x24_1 < (y186.length : Int)) = false := decide_eq_false c14
      clear c14
      by_cases c22 : a0_2 = 2
      ·rw [if_pos c22] at H
       have c22b0 : (a0_2 == 2) = true := beq_iff_eq.mpr c22
       have c22b1 : (a0_2 != 2) = false := bne_eq_false_iff_eq.mpr c22
       clear c22
       by_cases c23 : a0_2 ≥ 1
       ·rw [if_pos c23] at H
        have c23b0 : decide (1 ≤ a0_2) = true := decide_eq_true c23
        clear c23
        by_cases c24 : a0_2 ≤ 4
        ·rw [if_pos c24] at H
         have c24b0 : decide (a0_2 ≤ 4) = true := decide_eq_true c24
         clear c24
         by_cases c25 : a0_3 ≥ 0
         ·rw [if_pos c25] at H
          have c25b0 : decide (0 ≤ a0_3) = true := decide_eq_true c25
          clear c25
          by_cases c26 : a0_3 ≤ 4095
          ·rw [if_pos c26] at H
           have c26b0 : decide (a0_3 ≤ 4095) = true := decide_eq_true c26
           clear c26
           by_cases c27 : a0_4 ≥ 0
           ·rw [if_pos c27] at H
            have c27b0 : decide (0 ≤ a0_4) = true := decide_eq_true c27
            clear c27
            by_cases c28 : a0_5 ≥ 0
            ·rw [if_pos c28] at H
             have c28b0 : decide (0 ≤ a0_5) = true := decide_eq_true c28
             clear c28
             by_cases c29 : a0_7 ≥ 0
             ·rw [if_pos c29] at H
              have c29b0 : decide (0 ≤ a0_7) = true := decide_eq_true c29
              clear c29
              by_cases c30 : a0_2 = 1
              ·rw [if_pos c30] at H
               have c30b0 : (a0_2 == 1) = true := beq_iff_eq.mpr c30
               have c30b1 : (a0_2 != 1) = false := bne_eq_false_iff_eq.mpr c30
               clear c30
               by_cases c31 : (true == (a0_1.toList != ([] : List UInt8))) = true
               ·rw [if_pos c31] at H
                have c31n_ : ¬ a0_1.toList = [] := by clear H; cases hq_ : a0_1.toList <;> simp_all
                have c31b0 : (true == (a0_1.toList != ([] : List UInt8))) = true := c31
                (try (have c31b1 : decide (true = (a0_1.toList != ([] : List UInt8))) = true := by simpa using c31))
                (try (have c31b2 : (true == (a0_1.toList != ([] : List UInt8))) = true := by simpa using c31))
                clear c31
                by_cases c32 : a0_0.toList = ([] : List UInt8)
                ·rw [if_pos c32] at H
                 have c32b0 : (a0_0.toList == ([] : List UInt8)) = true := beq_iff_eq.mpr c32
                 have c32b1 : (a0_0.toList != ([] : List UInt8)) = false := bne_eq_false_iff_eq.mpr c32
                 clear c32
                 replace H := Option.bind_eq_some_iff.mp H
                 obtain ⟨t189, A330, H⟩ := H
                 replace H : (some (t189 == 90)) = some r := H
                 have A33 := Aside0.mk A330
                 clear A330
                 obtain rfl := Option.some.inj H
                 have hcz34_0 : wr.cell? ⟨gb183, 0, none⟩ = some (.string a0_0) := (blk_cell BK183.out 0).trans rfl
                 have hcz34_1 : wr.cell? ⟨gb183, 1, none⟩ = some (.string a0_1) := (blk_cell BK183.out 1).trans rfl
                 have hcz34_2 : wr.cell? ⟨gb183, 2, none⟩ = some (.int .i64 a0_2) := (blk_cell BK183.out 2).trans rfl
                 have hcz34_3 : wr.cell? ⟨gb183, 3, none⟩ = some (.int .i64 a0_3) := (blk_cell BK183.out 3).trans rfl
                 have hcz34_4 : wr.cell? ⟨gb183, 4, none⟩ = some (.int .i64 a0_4) := (blk_cell BK183.out 4).trans rfl
                 have hcz34_5 : wr.cell? ⟨gb183, 5, none⟩ = some (.int .i64 a0_5) := (blk_cell BK183.out 5).trans rfl
                 have hcz34_6 : wr.cell? ⟨gb183, 6, none⟩ = some (.int .i64 a0_6) := (blk_cell BK183.out 6).trans rfl
                 have hcz34_7 : wr.cell? ⟨gb183, 7, none⟩ = some (.int .i64 a0_7) := (blk_cell BK183.out 7).trans rfl
                 have hcz34_8 : wr.cell? ⟨gb183, 8, none⟩ = some (.string a0_8) := (blk_cell BK183.out 8).trans rfl
                 have hcz34_9 : wr.cell? ⟨gb183, 9, none⟩ = some (.string a0_9) := (blk_cell BK183.out 9).trans rfl
                 go_wp2_with (first | (go_at_call 11; (with_reducible refine (emit_Check.calls k1 a0_0 a0_1 a0_2 a0_3 a0_4 a0_5 a0_6 a0_7 a0_8 a0_9 t189 _ ?side1 A33.out).mono ?_); (case side1 => exact HE_.out.below (by repeat (first | (with_reducible first | exact HB.out | apply below_alloc | apply pw_below_drewN | apply below_drew1 | refine below_set ?_ GE183.out) | exact HB.out))); rintro e w35 ⟨rfl, hb⟩; have n0_ := Aside0.mk (Kd.R_below (by (with_reducible repeat (first | apply Kd.R_alloc | apply Kd.R_drewN | apply Kd.R_drew)); exact HO_22.out) hb); have n1_ := Aside0.mk (blk_below (g := gb183) (o := .cells #[.string a0_0, .string a0_1, .int .i64 a0_2, .int .i64 a0_3, .int .i64 a0_4, .int .i64 a0_5, .int .i64 a0_6, .int .i64 a0_7, .string a0_8, .string a0_9] 23 (0, 0)) (by (with_reducible repeat (first | refine blk_drewN ?_ _ | refine blk_drew ?_ | refine blk_alloc ?_ _)); exact BK183.out) hb); have n2_ := Aside0.mk (below_step (by repeat (first | (with_reducible first | exact HB.out | apply below_alloc | apply pw_below_drewN | apply below_drew1 | refine below_set ?_ GE183.out) | exact HB.out)) hb); clear HO_22; clear BK183; clear HB; have HO_22 := n0_; have BK183 := n1_; have HB := n2_; clear n0_ n1_ n2_; (try clear hb); (try clear hb2); (try clear hk); (try clear hi)))
                 go_ret
                 exact ⟨by first | rfl | (simp [errW_none, errW_some] <;> rfl) | (simp [*, errW_none, errW_some] <;> rfl), by repeat (first | (with_reducible first | exact HB.out | apply below_alloc | apply pw_below_drewN | apply below_drew1 | refine below_set ?_ GE183.out) | exact HB.out)⟩
                ·rw [if_neg c32] at H
                 have c32b0 : (a0_0.toList == ([] : List UInt8)) = false := beq_eq_false_iff_ne.mpr c32
                 have c32b1 : (a0_0.toList != ([] : List UInt8)) = true := bne_iff_ne.mpr c32
                 by_cases c36 : x3_1 = true
                 ·subst c36
                  have H1 : (if (¬ (true = true)) then (some false) else ((emit_Check.f k1 a0_0 a0_1 a0_2 a0_3 a0_4 a0_5 a0_6 a0_7 a0_8 a0_9).bind fun t190 => (some (t190 == 90)))) = some r := by rw [if_pos rfl] at H; exact H
                  clear H
                  have H := H1
                  clear H1
                  have H1 : ((emit_Check.f k1 a0_0 a0_1 a0_2 a0_3 a0_4 a0_5 a0_6 a0_7 a0_8 a0_9).bind fun t190 => (some (t190 == 90))) = some r := by rw [if_neg (by decide)] at H; exact H
                  clear H
                  have H := H1
                  clear H1
                  replace H := Option.bind_eq_some_iff.mp H
                  obtain ⟨t190, A370, H⟩ := H
                  replace H : (some (t190 == 90)) = some r := H
                  have A37 := Aside0.mk A370
                  clear A370
                  obtain rfl := Option.some.inj H
                  have hcz38_0 : wr.cell? ⟨gb183, 0, none⟩ = some (.string a0_0) := (blk_cell BK183.out 0).trans rfl
                  have hcz38_1 : wr.cell? ⟨gb183, 1, none⟩ = some (.string a0_1) := (blk_cell BK183.out 1).trans rfl
                  have hcz38_2 : wr.cell? ⟨gb183, 2, none⟩ = some (.int .i64 a0_2) := (blk_cell BK183.out 2).trans rfl
                  have hcz38_3 : wr.cell? ⟨gb183, 3, none⟩ = some (.int .i64 a0_3) := (blk_cell BK183.out 3).trans rfl
                  have hcz38_4 : wr.cell? ⟨gb183, 4, none⟩ = some (.int .i64 a0_4) := (blk_cell BK183.out 4).trans rfl
                  have hcz38_5 : wr.cell? ⟨gb183, 5, none⟩ = some (.int .i64 a0_5) := (blk_cell BK183.out 5).trans rfl
                  have hcz38_6 : wr.cell? ⟨gb183, 6, none⟩ = some (.int .i64 a0_6) := (blk_cell BK183.out 6).trans rfl
                  have hcz38_7 : wr.cell? ⟨gb183, 7, none⟩ = some (.int .i64 a0_7) := (blk_cell BK183.out 7).trans rfl
                  have hcz38_8 : wr.cell? ⟨gb183, 8, none⟩ = some (.string a0_8) := (blk_cell BK183.out 8).trans rfl
                  have hcz38_9 : wr.cell? ⟨gb183, 9, none⟩ = some (.string a0_9) := (blk_cell BK183.out 9).trans rfl
                  go_wp2_with (first | (go_at_call 11; (with_reducible refine (emit_Check.calls k1 a0_0 a0_1 a0_2 a0_3 a0_4 a0_5 a0_6 a0_7 a0_8 a0_9 t190 _ ?side1 A37.out).mono ?_); (case side1 => exact HE_.out.below (by repeat (first | (with_reducible first | exact HB.out | apply below_alloc | apply pw_below_drewN | apply below_drew1 | refine below_set ?_ GE183.out) | exact HB.out))); rintro e w39 ⟨rfl, hb⟩; have n0_ := Aside0.mk (Kd.R_below (by (with_reducible repeat (first | apply Kd.R_alloc | apply Kd.R_drewN | apply Kd.R_drew)); exact HO_22.out) hb); have n1_ := Aside0.mk (blk_below (g := gb183) (o := .cells #[.string a0_0, .string a0_1, .int .i64 a0_2, .int .i64 a0_3, .int .i64 a0_4, .int .i64 a0_5, .int .i64 a0_6, .int .i64 a0_7, .string a0_8, .string a0_9] 23 (0, 0)) (by (with_reducible repeat (first | refine blk_drewN ?_ _ | refine blk_drew ?_ | refine blk_alloc ?_ _)); exact BK183.out) hb); have n2_ := Aside0.mk (below_step (by repeat (first | (with_reducible first | exact HB.out | apply below_alloc | apply pw_below_drewN | apply below_drew1 | refine below_set ?_ GE183.out) | exact HB.out)) hb); clear HO_22; clear BK183; clear HB; have HO_22 := n0_; have BK183 := n1_; have HB := n2_; clear n0_ n1_ n2_; (try clear hb); (try clear hb2); (try clear hk); (try clear hi)))
                  go_ret
                  exact ⟨by first | rfl | (simp [errW_none, errW_some] <;> rfl) | (simp [*, errW_none, errW_some] <;> rfl), by repeat (first | (with_reducible first | exact HB.out | apply below_alloc | apply pw_below_drewN | apply below_drew1 | refine below_set ?_ GE183.out) | exact HB.out)⟩
                 ·replace c36 := Bool.eq_false_iff.mpr c36
                  subst c36
                  have H1 : ((emit_Check.f k1 a0_0 a0_1 a0_2 a0_3 a0_4 a0_5 a0_6 a0_7 a0_8 a0_9).bind fun t191 => (if t191 = 0 then (some true) else (if (¬ (false = true)) then (some false) else ((emit_Check.f k1 a0_0 a0_1 a0_2 a0_3 a0_4 a0_5 a0_6 a0_7 a0_8 a0_9).bind fun t192 => (some (t192 == 90)))))) = some r := by rw [if_neg (show ¬ (false = true) by decide)] at H; exact H
                  clear H
                  have H := H1
                  clear H1
                  replace H := Option.bind_eq_some_iff.mp H
                  obtain ⟨t191, A400, H⟩ := H
                  replace H : (if t191 = 0 then (some true) else (if (¬ (false = true)) then (some false) else ((emit_Check.f k1 a0_0 a0_1 a0_2 a0_3 a0_4 a0_5 a0_6 a0_7 a0_8 a0_9).bind fun t192 => (some (t192 == 90))))) = some r := H
                  have A40 := Aside0.mk A400
                  clear A400
                  by_cases c41 : t191 = 0
                  ·rw [if_pos c41] at H
                   have c41b0 : (t191 == 0) = true := beq_iff_eq.mpr c41
                   have c41b1 : (t191 != 0) = false := bne_eq_false_iff_eq.mpr c41
                   clear c41
                   obtain rfl := Option.some.inj H
                   have hcz42_0 : wr.cell? ⟨gb183, 0, none⟩ = some (.string a0_0) := (blk_cell BK183.out 0).trans rfl
                   have hcz42_1 : wr.cell? ⟨gb183, 1, none⟩ = some (.string a0_1) := (blk_cell BK183.out 1).trans rfl
                   have hcz42_2 : wr.cell? ⟨gb183, 2, none⟩ = some (.int .i64 a0_2) := (blk_cell BK183.out 2).trans rfl
                   have hcz42_3 : wr.cell? ⟨gb183, 3, none⟩ = some (.int .i64 a0_3) := (blk_cell BK183.out 3).trans rfl
                   have hcz42_4 : wr.cell? ⟨gb183, 4, none⟩ = some (.int .i64 a0_4) := (blk_cell BK183.out 4).trans rfl
                   have hcz42_5 : wr.cell? ⟨gb183, 5, none⟩ = some (.int .i64 a0_5) := (blk_cell BK183.out 5).trans rfl
                   have hcz42_6 : wr.cell? ⟨gb183, 6, none⟩ = some (.int .i64 a0_6) := (blk_cell BK183.out 6).trans rfl
                   have hcz42_7 : wr.cell? ⟨gb183, 7, none⟩ = some (.int .i64 a0_7) := (blk_cell BK183.out 7).trans rfl
                   have hcz42_8 : wr.cell? ⟨gb183, 8, none⟩ = some (.string a0_8) := (blk_cell BK183.out 8).trans rfl
                   have hcz42_9 : wr.cell? ⟨gb183, 9, none⟩ = some (.string a0_9) := (blk_cell BK183.out 9).trans rfl
                   go_wp2_with (first | (go_at_call 11; (with_reducible refine (emit_Check.calls k1 a0_0 a0_1 a0_2 a0_3 a0_4 a0_5 a0_6 a0_7 a0_8 a0_9 t191 _ ?side1 A40.out).mono ?_); (case side1 => exact HE_.out.below (by repeat (first | (with_reducible first | exact HB.out | apply below_alloc | apply pw_below_drewN | apply below_drew1 | refine below_set ?_ GE183.out) | exact HB.out))); rintro e w43 ⟨rfl, hb⟩; have n0_ := Aside0.mk (Kd.R_below (by (with_reducible repeat (first | apply Kd.R_alloc | apply Kd.R_drewN | apply Kd.R_drew)); exact HO_22.out) hb); have n1_ := Aside0.mk (blk_below (g := gb183) (o := .cells #[.string a0_0, .string a0_1, .int .i64 a0_2, .int .i64 a0_3, .int .i64 a0_4, .int .i64 a0_5, .int .i64 a0_6, .int .i64 a0_7, .string a0_8, .string a0_9] 23 (0, 0)) (by (with_reducible repeat (first | refine blk_drewN ?_ _ | refine blk_drew ?_ | refine blk_alloc ?_ _)); exact BK183.out) hb); have n2_ := Aside0.mk (below_step (by repeat (first | (with_reducible first | exact HB.out | apply below_alloc | apply pw_below_drewN | apply below_drew1 | refine below_set ?_ GE183.out) | exact HB.out)) hb); clear HO_22; clear BK183; clear HB; have HO_22 := n0_; have BK183 := n1_; have HB := n2_; clear n0_ n1_ n2_; (try clear hb); (try clear hb2); (try clear hk); (try clear hi)))
                   go_ret
                   exact ⟨by first | rfl | (simp [errW_none, errW_some] <;> rfl) | (simp [*, errW_none, errW_some] <;> rfl), by repeat (first | (with_reducible first | exact HB.out | apply below_alloc | apply pw_below_drewN | apply below_drew1 | refine below_set ?_ GE183.out) | exact HB.out)⟩
                  ·rw [if_neg c41] at H
                   have c41b0 : (t191 == 0) = false := beq_eq_false_iff_ne.mpr c41
                   have c41b1 : (t191 != 0) = true := bne_iff_ne.mpr c41
                   have H1 : (some false) = some r := by rw [if_pos (by decide)] at H; exact H
                   clear H
                   have H := H1
                   clear H1
                   obtain rfl := Option.some.inj H
                   have hcz44_0 : wr.cell? ⟨gb183, 0, none⟩ = some (.string a0_0) := (blk_cell BK183.out 0).trans rfl
                   have hcz44_1 : wr.cell? ⟨gb183, 1, none⟩ = some (.string a0_1) := (blk_cell BK183.out 1).trans rfl
                   have hcz44_2 : wr.cell? ⟨gb183, 2, none⟩ = some (.int .i64 a0_2) := (blk_cell BK183.out 2).trans rfl
                   have hcz44_3 : wr.cell? ⟨gb183, 3, none⟩ = some (.int .i64 a0_3) := (blk_cell BK183.out 3).trans rfl
                   have hcz44_4 : wr.cell? ⟨gb183, 4, none⟩ = some (.int .i64 a0_4) := (blk_cell BK183.out 4).trans rfl
                   have hcz44_5 : wr.cell? ⟨gb183, 5, none⟩ = some (.int .i64 a0_5) := (blk_cell BK183.out 5).trans rfl
                   have hcz44_6 : wr.cell? ⟨gb183, 6, none⟩ = some (.int .i64 a0_6) := (blk_cell BK183.out 6).trans rfl
                   have hcz44_7 : wr.cell? ⟨gb183, 7, none⟩ = some (.int .i64 a0_7) := (blk_cell BK183.out 7).trans rfl
                   have hcz44_8 : wr.cell? ⟨gb183, 8, none⟩ = some (.string a0_8) := (blk_cell BK183.out 8).trans rfl
                   have hcz44_9 : wr.cell? ⟨gb183, 9, none⟩ = some (.string a0_9) := (blk_cell BK183.out 9).trans rfl
                   go_wp2_with (first | (go_at_call 11; (with_reducible refine (emit_Check.calls k1 a0_0 a0_1 a0_2 a0_3 a0_4 a0_5 a0_6 a0_7 a0_8 a0_9 t191 _ ?side1 A40.out).mono ?_); (case side1 => exact HE_.out.below (by repeat (first | (with_reducible first | exact HB.out | apply below_alloc | apply pw_below_drewN | apply below_drew1 | refine below_set ?_ GE183.out) | exact HB.out))); rintro e w45 ⟨rfl, hb⟩; have n0_ := Aside0.mk (Kd.R_below (by (with_reducible repeat (first | apply Kd.R_alloc | apply Kd.R_drewN | apply Kd.R_drew)); exact HO_22.out) hb); have n1_ := Aside0.mk (blk_below (g := gb183) (o := .cells #[.string a0_0, .string a0_1, .int .i64 a0_2, .int .i64 a0_3, .int .i64 a0_4, .int .i64 a0_5, .int .i64 a0_6, .int .i64 a0_7, .string a0_8, .string a0_9] 23 (0, 0)) (by (with_reducible repeat (first | refine blk_drewN ?_ _ | refine blk_drew ?_ | refine blk_alloc ?_ _)); exact BK183.out) hb); have n2_ := Aside0.mk (below_step (by repeat (first | (with_reducible first | exact HB.out | apply below_alloc | apply pw_below_drewN | apply below_drew1 | refine below_set ?_ GE183.out) | exact HB.out)) hb); clear HO_22; clear BK183; clear HB; have HO_22 := n0_; have BK183 := n1_; have HB := n2_; clear n0_ n1_ n2_; (try clear hb); (try clear hb2); (try clear hk); (try clear hi)))
                   go_ret
                   exact ⟨by first | rfl | (simp [errW_none, errW_some] <;> rfl) | (simp [*, errW_none, errW_some] <;> rfl), by repeat (first | (with_reducible first | exact HB.out | apply below_alloc | apply pw_below_drewN | apply below_drew1 | refine below_set ?_ GE183.out) | exact HB.out)⟩
               ·rw [if_neg c31] at H
                have c31n_ : a0_1.toList = [] := by clear H; cases hq_ : a0_1.toList <;> simp_all
                have c31b0 : (true == (a0_1.toList != ([] : List UInt8))) = false := by simpa using c31
                (try (have c31b1 : decide (true = (a0_1.toList != ([] : List UInt8))) = false := by simpa using c31))
                (try (have c31b2 : (true == (a0_1.toList != ([] : List UInt8))) = false := by simpa using c31))
                (try (have c31b3 : ¬ (true = (a0_1.toList != ([] : List UInt8))) := by simpa using c31))
                clear c31
                replace H := Option.bind_eq_some_iff.mp H
                obtain ⟨t193, A460, H⟩ := H
                replace H : (some (t193 == 90)) = some r := H
                have A46 := Aside0.mk A460
                clear A460
                obtain rfl := Option.some.inj H
                have hcz47_0 : wr.cell? ⟨gb183, 0, none⟩ = some (.string a0_0) := (blk_cell BK183.out 0).trans rfl
                have hcz47_1 : wr.cell? ⟨gb183, 1, none⟩ = some (.string a0_1) := (blk_cell BK183.out 1).trans rfl
                have hcz47_2 : wr.cell? ⟨gb183, 2, none⟩ = some (.int .i64 a0_2) := (blk_cell BK183.out 2).trans rfl
                have hcz47_3 : wr.cell? ⟨gb183, 3, none⟩ = some (.int .i64 a0_3) := (blk_cell BK183.out 3).trans rfl
                have hcz47_4 : wr.cell? ⟨gb183, 4, none⟩ = some (.int .i64 a0_4) := (blk_cell BK183.out 4).trans rfl
                have hcz47_5 : wr.cell? ⟨gb183, 5, none⟩ = some (.int .i64 a0_5) := (blk_cell BK183.out 5).trans rfl
                have hcz47_6 : wr.cell? ⟨gb183, 6, none⟩ = some (.int .i64 a0_6) := (blk_cell BK183.out 6).trans rfl
                have hcz47_7 : wr.cell? ⟨gb183, 7, none⟩ = some (.int .i64 a0_7) := (blk_cell BK183.out 7).trans rfl
                have hcz47_8 : wr.cell? ⟨gb183, 8, none⟩ = some (.string a0_8) := (blk_cell BK183.out 8).trans rfl
                have hcz47_9 : wr.cell? ⟨gb183, 9, none⟩ = some (.string a0_9) := (blk_cell BK183.out 9).trans rfl
                go_wp2_with (first | (go_at_call 11; (with_reducible refine (emit_Check.calls k1 a0_0 a0_1 a0_2 a0_3 a0_4 a0_5 a0_6 a0_7 a0_8 a0_9 t193 _ ?side1 A46.out).mono ?_); (case side1 => exact HE_.out.below (by repeat (first | (with_reducible first | exact HB.out | apply below_alloc | apply pw_below_drewN | apply below_drew1 | refine below_set ?_ GE183.out) | exact HB.out))); rintro e w48 ⟨rfl, hb⟩; have n0_ := Aside0.mk (Kd.R_below (by (with_reducible repeat (first | apply Kd.R_alloc | apply Kd.R_drewN | apply Kd.R_drew)); exact HO_22.out) hb); have n1_ := Aside0.mk (blk_below (g := gb183) (o := .cells #[.string a0_0, .string a0_1, .int .i64 a0_2, .int .i64 a0_3, .int .i64 a0_4, .int .i64 a0_5, .int .i64 a0_6, .int .i64 a0_7, .string a0_8, .string a0_9] 23 (0, 0)) (by (with_reducible repeat (first | refine blk_drewN ?_ _ | refine blk_drew ?_ | refine blk_alloc ?_ _)); exact BK183.out) hb); have n2_ := Aside0.mk (below_step (by repeat (first | (with_reducible first | exact HB.out | apply below_alloc | apply pw_below_drewN | apply below_drew1 | refine below_set ?_ GE183.out) | exact HB.out)) hb); clear HO_22; clear BK183; clear HB; have HO_22 := n0_; have BK183 := n1_; have HB := n2_; clear n0_ n1_ n2_; (try clear hb); (try clear hb2); (try clear hk); (try clear hi)))
                go_ret
                exact ⟨by first | rfl | (simp [errW_none, errW_some] <;> rfl) | (simp [*, errW_none, errW_some] <;> rfl), by repeat (first | (with_reducible first | exact HB.out | apply below_alloc | apply pw_below_drewN | apply below_drew1 | refine below_set ?_ GE183.out) | exact HB.out)⟩
              ·rw [if_neg c30] at H
               have c30b0 : (a0_2 == 1) = false := beq_eq_false_iff_ne.mpr c30
               have c30b1 : (a0_2 != 1) = true := bne_iff_ne.mpr c30
               by_cases c49 : a0_7 = 0
               ·rw [if_pos c49] at H
                have c49b0 : (a0_7 == 0) = true := beq_iff_eq.mpr c49
                have c49b1 : (a0_7 != 0) = false := bne_eq_false_iff_eq.mpr c49
                clear c49
                by_cases c50 : (true == (a0_1.toList != ([] : List UInt8))) = true
                ·rw [if_pos c50] at H
                 have c50n_ : ¬ a0_1.toList = [] := by clear H; cases hq_ : a0_1.toList <;> simp_all
                 have c50b0 : (true == (a0_1.toList != ([] : List UInt8))) = true := c50
                 (try (have c50b1 : decide (true = (a0_1.toList != ([] : List UInt8))) = true := by simpa using c50))
                 (try (have c50b2 : (true == (a0_1.toList != ([] : List UInt8))) = true := by simpa using c50))
                 clear c50
                 by_cases c51 : a0_0.toList = ([] : List UInt8)
                 ·rw [if_pos c51] at H
                  have c51b0 : (a0_0.toList == ([] : List UInt8)) = true := beq_iff_eq.mpr c51
                  have c51b1 : (a0_0.toList != ([] : List UInt8)) = false := bne_eq_false_iff_eq.mpr c51
                  clear c51
                  replace H := Option.bind_eq_some_iff.mp H
                  obtain ⟨t194, A520, H⟩ := H
                  replace H : (some (t194 == 90)) = some r := H
                  have A52 := Aside0.mk A520
                  clear A520
                  obtain rfl := Option.some.inj H
                  have hcz53_0 : wr.cell? ⟨gb183, 0, none⟩ = some (.string a0_0) := (blk_cell BK183.out 0).trans rfl
                  have hcz53_1 : wr.cell? ⟨gb183, 1, none⟩ = some (.string a0_1) := (blk_cell BK183.out 1).trans rfl
                  have hcz53_2 : wr.cell? ⟨gb183, 2, none⟩ = some (.int .i64 a0_2) := (blk_cell BK183.out 2).trans rfl
                  have hcz53_3 : wr.cell? ⟨gb183, 3, none⟩ = some (.int .i64 a0_3) := (blk_cell BK183.out 3).trans rfl
                  have hcz53_4 : wr.cell? ⟨gb183, 4, none⟩ = some (.int .i64 a0_4) := (blk_cell BK183.out 4).trans rfl
                  have hcz53_5 : wr.cell? ⟨gb183, 5, none⟩ = some (.int .i64 a0_5) := (blk_cell BK183.out 5).trans rfl
                  have hcz53_6 : wr.cell? ⟨gb183, 6, none⟩ = some (.int .i64 a0_6) := (blk_cell BK183.out 6).trans rfl
                  have hcz53_7 : wr.cell? ⟨gb183, 7, none⟩ = some (.int .i64 a0_7) := (blk_cell BK183.out 7).trans rfl
                  have hcz53_8 : wr.cell? ⟨gb183, 8, none⟩ = some (.string a0_8) := (blk_cell BK183.out 8).trans rfl
                  have hcz53_9 : wr.cell? ⟨gb183, 9, none⟩ = some (.string a0_9) := (blk_cell BK183.out 9).trans rfl
                  go_wp2_with (first | (go_at_call 11; (with_reducible refine (emit_Check.calls k1 a0_0 a0_1 a0_2 a0_3 a0_4 a0_5 a0_6 a0_7 a0_8 a0_9 t194 _ ?side1 A52.out).mono ?_); (case side1 => exact HE_.out.below (by repeat (first | (with_reducible first | exact HB.out | apply below_alloc | apply pw_below_drewN | apply below_drew1 | refine below_set ?_ GE183.out) | exact HB.out))); rintro e w54 ⟨rfl, hb⟩; have n0_ := Aside0.mk (Kd.R_below (by (with_reducible repeat (first | apply Kd.R_alloc | apply Kd.R_drewN | apply Kd.R_drew)); exact HO_22.out) hb); have n1_ := Aside0.mk (blk_below (g := gb183) (o := .cells #[.string a0_0, .string a0_1, .int .i64 a0_2, .int .i64 a0_3, .int .i64 a0_4, .int .i64 a0_5, .int .i64 a0_6, .int .i64 a0_7, .string a0_8, .string a0_9] 23 (0, 0)) (by (with_reducible repeat (first | refine blk_drewN ?_ _ | refine blk_drew ?_ | refine blk_alloc ?_ _)); exact BK183.out) hb); have n2_ := Aside0.mk (below_step (by repeat (first | (with_reducible first | exact HB.out | apply below_alloc | apply pw_below_drewN | apply below_drew1 | refine below_set ?_ GE183.out) | exact HB.out)) hb); clear HO_22; clear BK183; clear HB; have HO_22 := n0_; have BK183 := n1_; have HB := n2_; clear n0_ n1_ n2_; (try clear hb); (try clear hb2); (try clear hk); (try clear hi)))
                  go_ret
                  exact ⟨by first | rfl | (simp [errW_none, errW_some] <;> rfl) | (simp [*, errW_none, errW_some] <;> rfl), by repeat (first | (with_reducible first | exact HB.out | apply below_alloc | apply pw_below_drewN | apply below_drew1 | refine below_set ?_ GE183.out) | exact HB.out)⟩
                 ·rw [if_neg c51] at H
                  have c51b0 : (a0_0.toList == ([] : List UInt8)) = false := beq_eq_false_iff_ne.mpr c51
                  have c51b1 : (a0_0.toList != ([] : List UInt8)) = true := bne_iff_ne.mpr c51
                  by_cases c55 : x3_1 = true
                  ·subst c55
                   have H1 : (if (¬ (true = true)) then (some false) else ((emit_Check.f k1 a0_0 a0_1 a0_2 a0_3 a0_4 a0_5 a0_6 a0_7 a0_8 a0_9).bind fun t195 => (some (t195 == 90)))) = some r := by rw [if_pos rfl] at H; exact H
                   clear H
                   have H := H1
                   clear H1
                   have H1 : ((emit_Check.f k1 a0_0 a0_1 a0_2 a0_3 a0_4 a0_5 a0_6 a0_7 a0_8 a0_9).bind fun t195 => (some (t195 == 90))) = some r := by rw [if_neg (by decide)] at H; exact H
                   clear H
                   have H := H1
                   clear H1
                   replace H := Option.bind_eq_some_iff.mp H
                   obtain ⟨t195, A560, H⟩ := H
                   replace H : (some (t195 == 90)) = some r := H
                   have A56 := Aside0.mk A560
                   clear A560
                   obtain rfl := Option.some.inj H
                   have hcz57_0 : wr.cell? ⟨gb183, 0, none⟩ = some (.string a0_0) := (blk_cell BK183.out 0).trans rfl
                   have hcz57_1 : wr.cell? ⟨gb183, 1, none⟩ = some (.string a0_1) := (blk_cell BK183.out 1).trans rfl
                   have hcz57_2 : wr.cell? ⟨gb183, 2, none⟩ = some (.int .i64 a0_2) := (blk_cell BK183.out 2).trans rfl
                   have hcz57_3 : wr.cell? ⟨gb183, 3, none⟩ = some (.int .i64 a0_3) := (blk_cell BK183.out 3).trans rfl
                   have hcz57_4 : wr.cell? ⟨gb183, 4, none⟩ = some (.int .i64 a0_4) := (blk_cell BK183.out 4).trans rfl
                   have hcz57_5 : wr.cell? ⟨gb183, 5, none⟩ = some (.int .i64 a0_5) := (blk_cell BK183.out 5).trans rfl
                   have hcz57_6 : wr.cell? ⟨gb183, 6, none⟩ = some (.int .i64 a0_6) := (blk_cell BK183.out 6).trans rfl
                   have hcz57_7 : wr.cell? ⟨gb183, 7, none⟩ = some (.int .i64 a0_7) := (blk_cell BK183.out 7).trans rfl
                   have hcz57_8 : wr.cell? ⟨gb183, 8, none⟩ = some (.string a0_8) := (blk_cell BK183.out 8).trans rfl
                   have hcz57_9 : wr.cell? ⟨gb183, 9, none⟩ = some (.string a0_9) := (blk_cell BK183.out 9).trans rfl
                   go_wp2_with (first | (go_at_call 11; (with_reducible refine (emit_Check.calls k1 a0_0 a0_1 a0_2 a0_3 a0_4 a0_5 a0_6 a0_7 a0_8 a0_9 t195 _ ?side1 A56.out).mono ?_); (case side1 => exact HE_.out.below (by repeat (first | (with_reducible first | exact HB.out | apply below_alloc | apply pw_below_drewN | apply below_drew1 | refine below_set ?_ GE183.out) | exact HB.out))); rintro e w58 ⟨rfl, hb⟩; have n0_ := Aside0.mk (Kd.R_below (by (with_reducible repeat (first | apply Kd.R_alloc | apply Kd.R_drewN | apply Kd.R_drew)); exact HO_22.out) hb); have n1_ := Aside0.mk (blk_below (g := gb183) (o := .cells #[.string a0_0, .string a0_1, .int .i64 a0_2, .int .i64 a0_3, .int .i64 a0_4, .int .i64 a0_5, .int .i64 a0_6, .int .i64 a0_7, .string a0_8, .string a0_9] 23 (0, 0)) (by (with_reducible repeat (first | refine blk_drewN ?_ _ | refine blk_drew ?_ | refine blk_alloc ?_ _)); exact BK183.out) hb); have n2_ := Aside0.mk (below_step (by repeat (first | (with_reducible first | exact HB.out | apply below_alloc | apply pw_below_drewN | apply below_drew1 | refine below_set ?_ GE183.out) | exact HB.out)) hb); clear HO_22; clear BK183; clear HB; have HO_22 := n0_; have BK183 := n1_; have HB := n2_; clear n0_ n1_ n2_; (try clear hb); (try clear hb2); (try clear hk); (try clear hi)))
                   go_ret
                   exact ⟨by first | rfl | (simp [errW_none, errW_some] <;> rfl) | (simp [*, errW_none, errW_some] <;> rfl), by repeat (first | (with_reducible first | exact HB.out | apply below_alloc | apply pw_below_drewN | apply below_drew1 | refine below_set ?_ GE183.out) | exact HB.out)⟩
                  ·replace c55 := Bool.eq_false_iff.mpr c55
                   subst c55
                   have H1 : ((emit_Check.f k1 a0_0 a0_1 a0_2 a0_3 a0_4 a0_5 a0_6 a0_7 a0_8 a0_9).bind fun t196 => (if t196 = 0 then (some true) else (if (¬ (false = true)) then (some false) else ((emit_Check.f k1 a0_0 a0_1 a0_2 a0_3 a0_4 a0_5 a0_6 a0_7 a0_8 a0_9).bind fun t197 => (some (t197 == 90)))))) = some r := by rw [if_neg (show ¬ (false = true) by decide)] at H; exact H
                   clear H
                   have H := H1
                   clear H1
                   replace H := Option.bind_eq_some_iff.mp H
                   obtain ⟨t196, A590, H⟩ := H
                   replace H : (if t196 = 0 then (some true) else (if (¬ (false = true)) then (some false) else ((emit_Check.f k1 a0_0 a0_1 a0_2 a0_3 a0_4 a0_5 a0_6 a0_7 a0_8 a0_9).bind fun t197 => (some (t197 == 90))))) = some r := H
                   have A59 := Aside0.mk A590
                   clear A590
                   by_cases c60 : t196 = 0
                   ·rw [if_pos c60] at H
                    have c60b0 : (t196 == 0) = true := beq_iff_eq.mpr c60
                    have c60b1 : (t196 != 0) = false := bne_eq_false_iff_eq.mpr c60
                    clear c60
                    obtain rfl := Option.some.inj H
                    have hcz61_0 : wr.cell? ⟨gb183, 0, none⟩ = some (.string a0_0) := (blk_cell BK183.out 0).trans rfl
                    have hcz61_1 : wr.cell? ⟨gb183, 1, none⟩ = some (.string a0_1) := (blk_cell BK183.out 1).trans rfl
                    have hcz61_2 : wr.cell? ⟨gb183, 2, none⟩ = some (.int .i64 a0_2) := (blk_cell BK183.out 2).trans rfl
                    have hcz61_3 : wr.cell? ⟨gb183, 3, none⟩ = some (.int .i64 a0_3) := (blk_cell BK183.out 3).trans rfl
                    have hcz61_4 : wr.cell? ⟨gb183, 4, none⟩ = some (.int .i64 a0_4) := (blk_cell BK183.out 4).trans rfl
                    have hcz61_5 : wr.cell? ⟨gb183, 5, none⟩ = some (.int .i64 a0_5) := (blk_cell BK183.out 5).trans rfl
                    have hcz61_6 : wr.cell? ⟨gb183, 6, none⟩ = some (.int .i64 a0_6) := (blk_cell BK183.out 6).trans rfl
                    have hcz61_7 : wr.cell? ⟨gb183, 7, none⟩ = some (.int .i64 a0_7) := (blk_cell BK183.out 7).trans rfl
                    have hcz61_8 : wr.cell? ⟨gb183, 8, none⟩ = some (.string a0_8) := (blk_cell BK183.out 8).trans rfl
                    have hcz61_9 : wr.cell? ⟨gb183, 9, none⟩ = some (.string a0_9) := (blk_cell BK183.out 9).trans rfl
                    go_wp2_with (first | (go_at_call 11; (with_reducible refine (emit_Check.calls k1 a0_0 a0_1 a0_2 a0_3 a0_4 a0_5 a0_6 a0_7 a0_8 a0_9 t196 _ ?side1 A59.out).mono ?_); (case side1 => exact HE_.out.below (by repeat (first | (with_reducible first | exact HB.out | apply below_alloc | apply pw_below_drewN | apply below_drew1 | refine below_set ?_ GE183.out) | exact HB.out))); rintro e w62 ⟨rfl, hb⟩; have n0_ := Aside0.mk (Kd.R_below (by (with_reducible repeat (first | apply Kd.R_alloc | apply Kd.R_drewN | apply Kd.R_drew)); exact HO_22.out) hb); have n1_ := Aside0.mk (blk_below (g := gb183) (o := .cells #[.string a0_0, .string a0_1, .int .i64 a0_2, .int .i64 a0_3, .int .i64 a0_4, .int .i64 a0_5, .int .i64 a0_6, .int .i64 a0_7, .string a0_8, .string a0_9] 23 (0, 0)) (by (with_reducible repeat (first | refine blk_drewN ?_ _ | refine blk_drew ?_ | refine blk_alloc ?_ _)); exact BK183.out) hb); have n2_ := Aside0.mk (below_step (by repeat (first | (with_reducible first | exact HB.out | apply below_alloc | apply pw_below_drewN | apply below_drew1 | refine below_set ?_ GE183.out) | exact HB.out)) hb); clear HO_22; clear BK183; clear HB; have HO_22 := n0_; have BK183 := n1_; have HB := n2_; clear n0_ n1_ n2_; (try clear hb); (try clear hb2); (try clear hk); (try clear hi)))
                    go_ret
                    exact ⟨by first | rfl | (simp [errW_none, errW_some] <;> rfl) | (simp [*, errW_none, errW_some] <;> rfl), by repeat (first | (with_reducible first | exact HB.out | apply below_alloc | apply pw_below_drewN | apply below_drew1 | refine below_set ?_ GE183.out) | exact HB.out)⟩
                   ·rw [if_neg c60] at H
                    have c60b0 : (t196 == 0) = false := beq_eq_false_iff_ne.mpr c60
                    have c60b1 : (t196 != 0) = true := bne_iff_ne.mpr c60
                    have H1 : (some false) = some r := by rw [if_pos (by decide)] at H; exact H
                    clear H
                    have H := H1
                    clear H1
                    obtain rfl := Option.some.inj H
                    have hcz63_0 : wr.cell? ⟨gb183, 0, none⟩ = some (.string a0_0) := (blk_cell BK183.out 0).trans rfl
                    have hcz63_1 : wr.cell? ⟨gb183, 1, none⟩ = some (.string a0_1) := (blk_cell BK183.out 1).trans rfl
                    have hcz63_2 : wr.cell? ⟨gb183, 2, none⟩ = some (.int .i64 a0_2) := (blk_cell BK183.out 2).trans rfl
                    have hcz63_3 : wr.cell? ⟨gb183, 3, none⟩ = some (.int .i64 a0_3) := (blk_cell BK183.out 3).trans rfl
                    have hcz63_4 : wr.cell? ⟨gb183, 4, none⟩ = some (.int .i64 a0_4) := (blk_cell BK183.out 4).trans rfl
                    have hcz63_5 : wr.cell? ⟨gb183, 5, none⟩ = some (.int .i64 a0_5) := (blk_cell BK183.out 5).trans rfl
                    have hcz63_6 : wr.cell? ⟨gb183, 6, none⟩ = some (.int .i64 a0_6) := (blk_cell BK183.out 6).trans rfl
                    have hcz63_7 : wr.cell? ⟨gb183, 7, none⟩ = some (.int .i64 a0_7) := (blk_cell BK183.out 7).trans rfl
                    have hcz63_8 : wr.cell? ⟨gb183, 8, none⟩ = some (.string a0_8) := (blk_cell BK183.out 8).trans rfl
                    have hcz63_9 : wr.cell? ⟨gb183, 9, none⟩ = some (.string a0_9) := (blk_cell BK183.out 9).trans rfl
                    go_wp2_with (first | (go_at_call 11; (with_reducible refine (emit_Check.calls k1 a0_0 a0_1 a0_2 a0_3 a0_4 a0_5 a0_6 a0_7 a0_8 a0_9 t196 _ ?side1 A59.out).mono ?_); (case side1 => exact HE_.out.below (by repeat (first | (with_reducible first | exact HB.out | apply below_alloc | apply pw_below_drewN | apply below_drew1 | refine below_set ?_ GE183.out) | exact HB.out))); rintro e w64 ⟨rfl, hb⟩; have n0_ := Aside0.mk (Kd.R_below (by (with_reducible repeat (first | apply Kd.R_alloc | apply Kd.R_drewN | apply Kd.R_drew)); exact HO_22.out) hb); have n1_ := Aside0.mk (blk_below (g := gb183) (o := .cells #[.string a0_0, .string a0_1, .int .i64 a0_2, .int .i64 a0_3, .int .i64 a0_4, .int .i64 a0_5, .int .i64 a0_6, .int .i64 a0_7, .string a0_8, .string a0_9] 23 (0, 0)) (by (with_reducible repeat (first | refine blk_drewN ?_ _ | refine blk_drew ?_ | refine blk_alloc ?_ _)); exact BK183.out) hb); have n2_ := Aside0.mk (below_step (by repeat (first | (with_reducible first | exact HB.out | apply below_alloc | apply pw_below_drewN | apply below_drew1 | refine below_set ?_ GE183.out) | exact HB.out)) hb); clear HO_22; clear BK183; clear HB; have HO_22 := n0_; have BK183 := n1_; have HB := n2_; clear n0_ n1_ n2_; (try clear hb); (try clear hb2); (try clear hk); (try clear hi)))
                    go_ret
                    exact ⟨by first | rfl | (simp [errW_none, errW_some] <;> rfl) | (simp [*, errW_none, errW_some] <;> rfl), by repeat (first | (with_reducible first | exact HB.out | apply below_alloc | apply pw_below_drewN | apply below_drew1 | refine below_set ?_ GE183.out) | exact HB.out)⟩
                ·rw [if_neg c50] at H
                 have c50n_ : a0_1.toList = [] := by clear H; cases hq_ : a0_1.toList <;> simp_all
                 have c50b0 : (true == (a0_1.toList != ([] : List UInt8))) = false := by simpa using c50
                 (try (have c50b1 : decide (true = (a0_1.toList != ([] : List UInt8))) = false := by simpa using c50))
                 (try (have c50b2 : (true == (a0_1.toList != ([] : List UInt8))) = false := by simpa using c50))
                 (try (have c50b3 : ¬ (true = (a0_1.toList != ([] : List UInt8))) := by simpa using c50))
                 clear c50
                 replace H := Option.bind_eq_some_iff.mp H
                 obtain ⟨t198, A650, H⟩ := H
                 replace H : (some (t198 == 90)) = some r := H
                 have A65 := Aside0.mk A650
                 clear A650
                 obtain rfl := Option.some.inj H
                 have hcz66_0 : wr.cell? ⟨gb183, 0, none⟩ = some (.string a0_0) := (blk_cell BK183.out 0).trans rfl
                 have hcz66_1 : wr.cell? ⟨gb183, 1, none⟩ = some (.string a0_1) := (blk_cell BK183.out 1).trans rfl
                 have hcz66_2 : wr.cell? ⟨gb183, 2, none⟩ = some (.int .i64 a0_2) := (blk_cell BK183.out 2).trans rfl
                 have hcz66_3 : wr.cell? ⟨gb183, 3, none⟩ = some (.int .i64 a0_3) := (blk_cell BK183.out 3).trans rfl
                 have hcz66_4 : wr.cell? ⟨gb183, 4, none⟩ = some (.int .i64 a0_4) := (blk_cell BK183.out 4).trans rfl
                 have hcz66_5 : wr.cell? ⟨gb183, 5, none⟩ = some (.int .i64 a0_5) := (blk_cell BK183.out 5).trans rfl
                 have hcz66_6 : wr.cell? ⟨gb183, 6, none⟩ = some (.int .i64 a0_6) := (blk_cell BK183.out 6).trans rfl
                 have hcz66_7 : wr.cell? ⟨gb183, 7, none⟩ = some (.int .i64 a0_7) := (blk_cell BK183.out 7).trans rfl
                 have hcz66_8 : wr.cell? ⟨gb183, 8, none⟩ = some (.string a0_8) := (blk_cell BK183.out 8).trans rfl
                 have hcz66_9 : wr.cell? ⟨gb183, 9, none⟩ = some (.string a0_9) := (blk_cell BK183.out 9).trans rfl
                 go_wp2_with (first | (go_at_call 11; (with_reducible refine (emit_Check.calls k1 a0_0 a0_1 a0_2 a0_3 a0_4 a0_5 a0_6 a0_7 a0_8 a0_9 t198 _ ?side1 A65.out).mono ?_); (case side1 => exact HE_.out.below (by repeat (first | (with_reducible first | exact HB.out | apply below_alloc | apply pw_below_drewN | apply below_drew1 | refine below_set ?_ GE183.out) | exact HB.out))); rintro e w67 ⟨rfl, hb⟩; have n0_ := Aside0.mk (Kd.R_below (by (with_reducible repeat (first | apply Kd.R_alloc | apply Kd.R_drewN | apply Kd.R_drew)); exact HO_22.out) hb); have n1_ := Aside0.mk (blk_below (g := gb183) (o := .cells #[.string a0_0, .string a0_1, .int .i64 a0_2, .int .i64 a0_3, .int .i64 a0_4, .int .i64 a0_5, .int .i64 a0_6, .int .i64 a0_7, .string a0_8, .string a0_9] 23 (0, 0)) (by (with_reducible repeat (first | refine blk_drewN ?_ _ | refine blk_drew ?_ | refine blk_alloc ?_ _)); exact BK183.out) hb); have n2_ := Aside0.mk (below_step (by repeat (first | (with_reducible first | exact HB.out | apply below_alloc | apply pw_below_drewN | apply below_drew1 | refine below_set ?_ GE183.out) | exact HB.out)) hb); clear HO_22; clear BK183; clear HB; have HO_22 := n0_; have BK183 := n1_; have HB := n2_; clear n0_ n1_ n2_; (try clear hb); (try clear hb2); (try clear hk); (try clear hi)))
                 go_ret
                 exact ⟨by first | rfl | (simp [errW_none, errW_some] <;> rfl) | (simp [*, errW_none, errW_some] <;> rfl), by repeat (first | (with_reducible first | exact HB.out | apply below_alloc | apply pw_below_drewN | apply below_drew1 | refine below_set ?_ GE183.out) | exact HB.out)⟩
               ·rw [if_neg c49] at H
                have c49b0 : (a0_7 == 0) = false := beq_eq_false_iff_ne.mpr c49
                have c49b1 : (a0_7 != 0) = true := bne_iff_ne.mpr c49
                replace H := Option.bind_eq_some_iff.mp H
                obtain ⟨t199, A680, H⟩ := H
                replace H : (some (t199 == 90)) = some r := H
                have A68 := Aside0.mk A680
                clear A680
                obtain rfl := Option.some.inj H
                have hcz69_0 : wr.cell? ⟨gb183, 0, none⟩ = some (.string a0_0) := (blk_cell BK183.out 0).trans rfl
                have hcz69_1 : wr.cell? ⟨gb183, 1, none⟩ = some (.string a0_1) := (blk_cell BK183.out 1).trans rfl
                have hcz69_2 : wr.cell? ⟨gb183, 2, none⟩ = some (.int .i64 a0_2) := (blk_cell BK183.out 2).trans rfl
                have hcz69_3 : wr.cell? ⟨gb183, 3, none⟩ = some (.int .i64 a0_3) := (blk_cell BK183.out 3).trans rfl
                have hcz69_4 : wr.cell? ⟨gb183, 4, none⟩ = some (.int .i64 a0_4) := (blk_cell BK183.out 4).trans rfl
                have hcz69_5 : wr.cell? ⟨gb183, 5, none⟩ = some (.int .i64 a0_5) := (blk_cell BK183.out 5).trans rfl
                have hcz69_6 : wr.cell? ⟨gb183, 6, none⟩ = some (.int .i64 a0_6) := (blk_cell BK183.out 6).trans rfl
                have hcz69_7 : wr.cell? ⟨gb183, 7, none⟩ = some (.int .i64 a0_7) := (blk_cell BK183.out 7).trans rfl
                have hcz69_8 : wr.cell? ⟨gb183, 8, none⟩ = some (.string a0_8) := (blk_cell BK183.out 8).trans rfl
                have hcz69_9 : wr.cell? ⟨gb183, 9, none⟩ = some (.string a0_9) := (blk_cell BK183.out 9).trans rfl
                go_wp2_with (first | (go_at_call 11; (with_reducible refine (emit_Check.calls k1 a0_0 a0_1 a0_2 a0_3 a0_4 a0_5 a0_6 a0_7 a0_8 a0_9 t199 _ ?side1 A68.out).mono ?_); (case side1 => exact HE_.out.below (by repeat (first | (with_reducible first | exact HB.out | apply below_alloc | apply pw_below_drewN | apply below_drew1 | refine below_set ?_ GE183.out) | exact HB.out))); rintro e w70 ⟨rfl, hb⟩; have n0_ := Aside0.mk (Kd.R_below (by (with_reducible repeat (first | apply Kd.R_alloc | apply Kd.R_drewN | apply Kd.R_drew)); exact HO_22.out) hb); have n1_ := Aside0.mk (blk_below (g := gb183) (o := .cells #[.string a0_0, .string a0_1, .int .i64 a0_2, .int .i64 a0_3, .int .i64 a0_4, .int .i64 a0_5, .int .i64 a0_6, .int .i64 a0_7, .string a0_8, .string a0_9] 23 (0, 0)) (by (with_reducible repeat (first | refine blk_drewN ?_ _ | refine blk_drew ?_ | refine blk_alloc ?_ _)); exact BK183.out) hb); have n2_ := Aside0.mk (below_step (by repeat (first | (with_reducible first | exact HB.out | apply below_alloc | apply pw_below_drewN | apply below_drew1 | refine below_set ?_ GE183.out) | exact HB.out)) hb); clear HO_22; clear BK183; clear HB; have HO_22 := n0_; have BK183 := n1_; have HB := n2_; clear n0_ n1_ n2_; (try clear hb); (try clear hb2); (try clear hk); (try clear hi)))
                go_ret
                exact ⟨by first | rfl | (simp [errW_none, errW_some] <;> rfl) | (simp [*, errW_none, errW_some] <;> rfl), by repeat (first | (with_reducible first | exact HB.out | apply below_alloc | apply pw_below_drewN | apply below_drew1 | refine below_set ?_ GE183.out) | exact HB.out)⟩
             ·rw [if_neg c29] at H
              have c29b0 : decide (0 ≤ a0_7) = false := decide_eq_false c29
              clear c29
              replace H := Option.bind_eq_some_iff.mp H
              obtain ⟨t200, A710, H⟩ := H
              replace H : (some (t200 == 90)) = some r := H
              have A71 := Aside0.mk A710
              clear A710
              obtain rfl := Option.some.inj H
              have hcz72_0 : wr.cell? ⟨gb183, 0, none⟩ = some (.string a0_0) := (blk_cell BK183.out 0).trans rfl
              have hcz72_1 : wr.cell? ⟨gb183, 1, none⟩ = some (.string a0_1) := (blk_cell BK183.out 1).trans rfl
              have hcz72_2 : wr.cell? ⟨gb183, 2, none⟩ = some (.int .i64 a0_2) := (blk_cell BK183.out 2).trans rfl
              have hcz72_3 : wr.cell? ⟨gb183, 3, none⟩ = some (.int .i64 a0_3) := (blk_cell BK183.out 3).trans rfl
              have hcz72_4 : wr.cell? ⟨gb183, 4, none⟩ = some (.int .i64 a0_4) := (blk_cell BK183.out 4).trans rfl
              have hcz72_5 : wr.cell? ⟨gb183, 5, none⟩ = some (.int .i64 a0_5) := (blk_cell BK183.out 5).trans rfl
              have hcz72_6 : wr.cell? ⟨gb183, 6, none⟩ = some (.int .i64 a0_6) := (blk_cell BK183.out 6).trans rfl
              have hcz72_7 : wr.cell? ⟨gb183, 7, none⟩ = some (.int .i64 a0_7) := (blk_cell BK183.out 7).trans rfl
              have hcz72_8 : wr.cell? ⟨gb183, 8, none⟩ = some (.string a0_8) := (blk_cell BK183.out 8).trans rfl
              have hcz72_9 : wr.cell? ⟨gb183, 9, none⟩ = some (.string a0_9) := (blk_cell BK183.out 9).trans rfl
              go_wp2_with (first | (go_at_call 11; (with_reducible refine (emit_Check.calls k1 a0_0 a0_1 a0_2 a0_3 a0_4 a0_5 a0_6 a0_7 a0_8 a0_9 t200 _ ?side1 A71.out).mono ?_); (case side1 => exact HE_.out.below (by repeat (first | (with_reducible first | exact HB.out | apply below_alloc | apply pw_below_drewN | apply below_drew1 | refine below_set ?_ GE183.out) | exact HB.out))); rintro e w73 ⟨rfl, hb⟩; have n0_ := Aside0.mk (Kd.R_below (by (with_reducible repeat (first | apply Kd.R_alloc | apply Kd.R_drewN | apply Kd.R_drew)); exact HO_22.out) hb); have n1_ := Aside0.mk (blk_below (g := gb183) (o := .cells #[.string a0_0, .string a0_1, .int .i64 a0_2, .int .i64 a0_3, .int .i64 a0_4, .int .i64 a0_5, .int .i64 a0_6, .int .i64 a0_7, .string a0_8, .string a0_9] 23 (0, 0)) (by (with_reducible repeat (first | refine blk_drewN ?_ _ | refine blk_drew ?_ | refine blk_alloc ?_ _)); exact BK183.out) hb); have n2_ := Aside0.mk (below_step (by repeat (first | (with_reducible first | exact HB.out | apply below_alloc | apply pw_below_drewN | apply below_drew1 | refine below_set ?_ GE183.out) | exact HB.out)) hb); clear HO_22; clear BK183; clear HB; have HO_22 := n0_; have BK183 := n1_; have HB := n2_; clear n0_ n1_ n2_; (try clear hb); (try clear hb2); (try clear hk); (try clear hi)))
              go_ret
              exact ⟨by first | rfl | (simp [errW_none, errW_some] <;> rfl) | (simp [*, errW_none, errW_some] <;> rfl), by repeat (first | (with_reducible first | exact HB.out | apply below_alloc | apply pw_below_drewN | apply below_drew1 | refine below_set ?_ GE183.out) | exact HB.out)⟩
            ·rw [if_neg c28] at H
             have c28b0 : decide (0 ≤ a0_5) = false := decide_eq_false c28
             clear c28
             replace H := Option.bind_eq_some_iff.mp H
             obtain ⟨t201, A740, H⟩ := H
             replace H : (some (t201 == 90)) = some r := H
             have A74 := Aside0.mk A740
             clear A740
             obtain rfl := Option.some.inj H
             have hcz75_0 : wr.cell? ⟨gb183, 0, none⟩ = some (.string a0_0) := (blk_cell BK183.out 0).trans rfl
             have hcz75_1 : wr.cell? ⟨gb183, 1, none⟩ = some (.string a0_1) := (blk_cell BK183.out 1).trans rfl
             have hcz75_2 : wr.cell? ⟨gb183, 2, none⟩ = some (.int .i64 a0_2) := (blk_cell BK183.out 2).trans rfl
             have hcz75_3 : wr.cell? ⟨gb183, 3, none⟩ = some (.int .i64 a0_3) := (blk_cell BK183.out 3).trans rfl
             have hcz75_4 : wr.cell? ⟨gb183, 4, none⟩ = some (.int .i64 a0_4) := (blk_cell BK183.out 4).trans rfl
             have hcz75_5 : wr.cell? ⟨gb183, 5, none⟩ = some (.int .i64 a0_5) := (blk_cell BK183.out 5).trans rfl
             have hcz75_6 : wr.cell? ⟨gb183, 6, none⟩ = some (.int .i64 a0_6) := (blk_cell BK183.out 6).trans rfl
             have hcz75_7 : wr.cell? ⟨gb183, 7, none⟩ = some (.int .i64 a0_7) := (blk_cell BK183.out 7).trans rfl
             have hcz75_8 : wr.cell? ⟨gb183, 8, none⟩ = some (.string a0_8) := (blk_cell BK183.out 8).trans rfl
             have hcz75_9 : wr.cell? ⟨gb183, 9, none⟩ = some (.string a0_9) := (blk_cell BK183.out 9).trans rfl
             go_wp2_with (first | (go_at_call 11; (with_reducible refine (emit_Check.calls k1 a0_0 a0_1 a0_2 a0_3 a0_4 a0_5 a0_6 a0_7 a0_8 a0_9 t201 _ ?side1 A74.out).mono ?_); (case side1 => exact HE_.out.below (by repeat (first | (with_reducible first | exact HB.out | apply below_alloc | apply pw_below_drewN | apply below_drew1 | refine below_set ?_ GE183.out) | exact HB.out))); rintro e w76 ⟨rfl, hb⟩; have n0_ := Aside0.mk (Kd.R_below (by (with_reducible repeat (first | apply Kd.R_alloc | apply Kd.R_drewN | apply Kd.R_drew)); exact HO_22.out) hb); have n1_ := Aside0.mk (blk_below (g := gb183) (o := .cells #[.string a0_0, .string a0_1, .int .i64 a0_2, .int .i64 a0_3, .int .i64 a0_4, .int .i64 a0_5, .int .i64 a0_6, .int .i64 a0_7, .string a0_8, .string a0_9] 23 (0, 0)) (by (with_reducible repeat (first | refine blk_drewN ?_ _ | refine blk_drew ?_ | refine blk_alloc ?_ _)); exact BK183.out) hb); have n2_ := Aside0.mk (below_step (by repeat (first | (with_reducible first | exact HB.out | apply below_alloc | apply pw_below_drewN | apply below_drew1 | refine below_set ?_ GE183.out) | exact HB.out)) hb); clear HO_22; clear BK183; clear HB; have HO_22 := n0_; have BK183 := n1_; have HB := n2_; clear n0_ n1_ n2_; (try clear hb); (try clear hb2); (try clear hk); (try clear hi)))
             go_ret
             exact ⟨by first | rfl | (simp [errW_none, errW_some] <;> rfl) | (simp [*, errW_none, errW_some] <;> rfl), by repeat (first | (with_reducible first | exact HB.out | apply below_alloc | apply pw_below_drewN | apply below_drew1 | refine below_set ?_ GE183.out) | exact HB.out)⟩
           ·rw [if_neg c27] at H
            have c27b0 : decide (0 ≤ a0_4) = false := decide_eq_false c27
            clear c27
            replace H := Option.bind_eq_some_iff.mp H
            obtain ⟨t202, A770, H⟩ := H
            replace H : (some (t202 == 90)) = some r := H
            have A77 := Aside0.mk A770
            clear A770
            obtain rfl := Option.some.inj H
            have hcz78_0 : wr.cell? ⟨gb183, 0, none⟩ = some (.string a0_0) := (blk_cell BK183.out 0).trans rfl
            have hcz78_1 : wr.cell? ⟨gb183, 1, none⟩ = some (.string a0_1) := (blk_cell BK183.out 1).trans rfl
            have hcz78_2 : wr.cell? ⟨gb183, 2, none⟩ = some (.int .i64 a0_2) := (blk_cell BK183.out 2).trans rfl
            have hcz78_3 : wr.cell? ⟨gb183, 3, none⟩ = some (.int .i64 a0_3) := (blk_cell BK183.out 3).trans rfl
            have hcz78_4 : wr.cell? ⟨gb183, 4, none⟩ = some (.int .i64 a0_4) := (blk_cell BK183.out 4).trans rfl
            have hcz78_5 : wr.cell? ⟨gb183, 5, none⟩ = some (.int .i64 a0_5) := (blk_cell BK183.out 5).trans rfl
            have hcz78_6 : wr.cell? ⟨gb183, 6, none⟩ = some (.int .i64 a0_6) := (blk_cell BK183.out 6).trans rfl
            have hcz78_7 : wr.cell? ⟨gb183, 7, none⟩ = some (.int .i64 a0_7) := (blk_cell BK183.out 7).trans rfl
            have hcz78_8 : wr.cell? ⟨gb183, 8, none⟩ = some (.string a0_8) := (blk_cell BK183.out 8).trans rfl
            have hcz78_9 : wr.cell? ⟨gb183, 9, none⟩ = some (.string a0_9) := (blk_cell BK183.out 9).trans rfl
            go_wp2_with (first | (go_at_call 11; (with_reducible refine (emit_Check.calls k1 a0_0 a0_1 a0_2 a0_3 a0_4 a0_5 a0_6 a0_7 a0_8 a0_9 t202 _ ?side1 A77.out).mono ?_); (case side1 => exact HE_.out.below (by repeat (first | (with_reducible first | exact HB.out | apply below_alloc | apply pw_below_drewN | apply below_drew1 | refine below_set ?_ GE183.out) | exact HB.out))); rintro e w79 ⟨rfl, hb⟩; have n0_ := Aside0.mk (Kd.R_below (by (with_reducible repeat (first | apply Kd.R_alloc | apply Kd.R_drewN | apply Kd.R_drew)); exact HO_22.out) hb); have n1_ := Aside0.mk (blk_below (g := gb183) (o := .cells #[.string a0_0, .string a0_1, .int .i64 a0_2, .int .i64 a0_3, .int .i64 a0_4, .int .i64 a0_5, .int .i64 a0_6, .int .i64 a0_7, .string a0_8, .string a0_9] 23 (0, 0)) (by (with_reducible repeat (first | refine blk_drewN ?_ _ | refine blk_drew ?_ | refine blk_alloc ?_ _)); exact BK183.out) hb); have n2_ := Aside0.mk (below_step (by repeat (first | (with_reducible first | exact HB.out | apply below_alloc | apply pw_below_drewN | apply below_drew1 | refine below_set ?_ GE183.out) | exact HB.out)) hb); clear HO_22; clear BK183; clear HB; have HO_22 := n0_; have BK183 := n1_; have HB := n2_; clear n0_ n1_ n2_; (try clear hb); (try clear hb2); (try clear hk); (try clear hi)))
            go_ret
            exact ⟨by first | rfl | (simp [errW_none, errW_some] <;> rfl) | (simp [*, errW_none, errW_some] <;> rfl), by repeat (first | (with_reducible first | exact HB.out | apply below_alloc | apply pw_below_drewN | apply below_drew1 | refine below_set ?_ GE183.out) | exact HB.out)⟩
          ·rw [if_neg c26] at H
           have c26b0 : decide (a0_3 ≤ 4095) = false := decide_eq_false c26
           clear c26
           replace H := Option.bind_eq_some_iff.mp H
           obtain ⟨t203, A800, H⟩ := H
           replace H : (some (t203 == 90)) = some r := H
           have A80 := Aside0.mk A800
           clear A800
           obtain rfl := Option.some.inj H
           have hcz81_0 : wr.cell? ⟨gb183, 0, none⟩ = some (.string a0_0) := (blk_cell BK183.out 0).trans rfl
           have hcz81_1 : wr.cell? ⟨gb183, 1, none⟩ = some (.string a0_1) := (blk_cell BK183.out 1).trans rfl
           have hcz81_2 : wr.cell? ⟨gb183, 2, none⟩ = some (.int .i64 a0_2) := (blk_cell BK183.out 2).trans rfl
           have hcz81_3 : wr.cell? ⟨gb183, 3, none⟩ = some (.int .i64 a0_3) := (blk_cell BK183.out 3).trans rfl
           have hcz81_4 : wr.cell? ⟨gb183, 4, none⟩ = some (.int .i64 a0_4) := (blk_cell BK183.out 4).trans rfl
           have hcz81_5 : wr.cell? ⟨gb183, 5, none⟩ = some (.int .i64 a0_5) := (blk_cell BK183.out 5).trans rfl
           have hcz81_6 : wr.cell? ⟨gb183, 6, none⟩ = some (.int .i64 a0_6) := (blk_cell BK183.out 6).trans rfl
           have hcz81_7 : wr.cell? ⟨gb183, 7, none⟩ = some (.int .i64 a0_7) := (blk_cell BK183.out 7).trans rfl
           have hcz81_8 : wr.cell? ⟨gb183, 8, none⟩ = some (.string a0_8) := (blk_cell BK183.out 8).trans rfl
           have hcz81_9 : wr.cell? ⟨gb183, 9, none⟩ = some (.string a0_9) := (blk_cell BK183.out 9).trans rfl
           go_wp2_with (first | (go_at_call 11; (with_reducible refine (emit_Check.calls k1 a0_0 a0_1 a0_2 a0_3 a0_4 a0_5 a0_6 a0_7 a0_8 a0_9 t203 _ ?side1 A80.out).mono ?_); (case side1 => exact HE_.out.below (by repeat (first | (with_reducible first | exact HB.out | apply below_alloc | apply pw_below_drewN | apply below_drew1 | refine below_set ?_ GE183.out) | exact HB.out))); rintro e w82 ⟨rfl, hb⟩; have n0_ := Aside0.mk (Kd.R_below (by (with_reducible repeat (first | apply Kd.R_alloc | apply Kd.R_drewN | apply Kd.R_drew)); exact HO_22.out) hb); have n1_ := Aside0.mk (blk_below (g := gb183) (o := .cells #[.string a0_0, .string a0_1, .int .i64 a0_2, .int .i64 a0_3, .int .i64 a0_4, .int .i64 a0_5, .int .i64 a0_6, .int .i64 a0_7, .string a0_8, .string a0_9] 23 (0, 0)) (by (with_reducible repeat (first | refine blk_drewN ?_ _ | refine blk_drew ?_ | refine blk_alloc ?_ _)); exact BK183.out) hb); have n2_ := Aside0.mk (below_step (by repeat (first | (with_reducible first | exact HB.out | apply below_alloc | apply pw_below_drewN | apply below_drew1 | refine below_set ?_ GE183.out) | exact HB.out)) hb); clear HO_22; clear BK183; clear HB; have HO_22 := n0_; have BK183 := n1_; have HB := n2_; clear n0_ n1_ n2_; (try clear hb); (try clear hb2); (try clear hk); (try clear hi)))
           go_ret
           exact ⟨by first | rfl | (simp [errW_none, errW_some] <;> rfl) | (simp [*, errW_none, errW_some] <;> rfl), by repeat (first | (with_reducible first | exact HB.out | apply below_alloc | apply pw_below_drewN | apply below_drew1 | refine below_set ?_ GE183.out) | exact HB.out)⟩
         ·rw [if_neg c25] at H
          have c25b0 : decide (0 ≤ a0_3) = false := decide_eq_false c25
          clear c25
          replace H := Option.bind_eq_some_iff.mp H
          obtain ⟨t204, A830, H⟩ := H
          replace H : (some (t204 == 90)) = some r := H
          have A83 := Aside0.mk A830
          clear A830
          obtain rfl := Option.some.inj H
          have hcz84_0 : wr.cell? ⟨gb183, 0, none⟩ = some (.string a0_0) := (blk_cell BK183.out 0).trans rfl
          have hcz84_1 : wr.cell? ⟨gb183, 1, none⟩ = some (.string a0_1) := (blk_cell BK183.out 1).trans rfl
          have hcz84_2 : wr.cell? ⟨gb183, 2, none⟩ = some (.int .i64 a0_2) := (blk_cell BK183.out 2).trans rfl
          have hcz84_3 : wr.cell? ⟨gb183, 3, none⟩ = some (.int .i64 a0_3) := (blk_cell BK183.out 3).trans rfl
          have hcz84_4 : wr.cell? ⟨gb183, 4, none⟩ = some (.int .i64 a0_4) := (blk_cell BK183.out 4).trans rfl
          have hcz84_5 : wr.cell? ⟨gb183, 5, none⟩ = some (.int .i64 a0_5) := (blk_cell BK183.out 5).trans rfl
          have hcz84_6 : wr.cell? ⟨gb183, 6, none⟩ = some (.int .i64 a0_6) := (blk_cell BK183.out 6).trans rfl
          have hcz84_7 : wr.cell? ⟨gb183, 7, none⟩ = some (.int .i64 a0_7) := (blk_cell BK183.out 7).trans rfl
          have hcz84_8 : wr.cell? ⟨gb183, 8, none⟩ = some (.string a0_8) := (blk_cell BK183.out 8).trans rfl
          have hcz84_9 : wr.cell? ⟨gb183, 9, none⟩ = some (.string a0_9) := (blk_cell BK183.out 9).trans rfl
          go_wp2_with (first | (go_at_call 11; (with_reducible refine (emit_Check.calls k1 a0_0 a0_1 a0_2 a0_3 a0_4 a0_5 a0_6 a0_7 a0_8 a0_9 t204 _ ?side1 A83.out).mono ?_); (case side1 => exact HE_.out.below (by repeat (first | (with_reducible first | exact HB.out | apply below_alloc | apply pw_below_drewN | apply below_drew1 | refine below_set ?_ GE183.out) | exact HB.out))); rintro e w85 ⟨rfl, hb⟩; have n0_ := Aside0.mk (Kd.R_below (by (with_reducible repeat (first | apply Kd.R_alloc | apply Kd.R_drewN | apply Kd.R_drew)); exact HO_22.out) hb); have n1_ := Aside0.mk (blk_below (g := gb183) (o := .cells #[.string a0_0, .string a0_1, .int .i64 a0_2, .int .i64 a0_3, .int .i64 a0_4, .int .i64 a0_5, .int .i64 a0_6, .int .i64 a0_7, .string a0_8, .string a0_9] 23 (0, 0)) (by (with_reducible repeat (first | refine blk_drewN ?_ _ | refine blk_drew ?_ | refine blk_alloc ?_ _)); exact BK183.out) hb); have n2_ := Aside0.mk (below_step (by repeat (first | (with_reducible first | exact HB.out | apply below_alloc | apply pw_below_drewN | apply below_drew1 | refine below_set ?_ GE183.out) | exact HB.out)) hb); clear HO_22; clear BK183; clear HB; have HO_22 := n0_; have BK183 := n1_; have HB := n2_; clear n0_ n1_ n2_; (try clear hb); (try clear hb2); (try clear hk); (try clear hi)))
          go_ret
          exact ⟨by first | rfl | (simp [errW_none, errW_some] <;> rfl) | (simp [*, errW_none, errW_some] <;> rfl), by repeat (first | (with_reducible first | exact HB.out | apply below_alloc | apply pw_below_drewN | apply below_drew1 | refine below_set ?_ GE183.out) | exact HB.out)⟩
        ·rw [if_neg c24] at H
         have c24b0 : decide (a0_2 ≤ 4) = false := decide_eq_false c24
         clear c24
         replace H := Option.bind_eq_some_iff.mp H
         obtain ⟨t205, A860, H⟩ := H
         replace H : (some (t205 == 90)) = some r := H
         have A86 := Aside0.mk A860
         clear A860
         obtain rfl := Option.some.inj H
         have hcz87_0 : wr.cell? ⟨gb183, 0, none⟩ = some (.string a0_0) := (blk_cell BK183.out 0).trans rfl
         have hcz87_1 : wr.cell? ⟨gb183, 1, none⟩ = some (.string a0_1) := (blk_cell BK183.out 1).trans rfl
         have hcz87_2 : wr.cell? ⟨gb183, 2, none⟩ = some (.int .i64 a0_2) := (blk_cell BK183.out 2).trans rfl
         have hcz87_3 : wr.cell? ⟨gb183, 3, none⟩ = some (.int .i64 a0_3) := (blk_cell BK183.out 3).trans rfl
         have hcz87_4 : wr.cell? ⟨gb183, 4, none⟩ = some (.int .i64 a0_4) := (blk_cell BK183.out 4).trans rfl
         have hcz87_5 : wr.cell? ⟨gb183, 5, none⟩ = some (.int .i64 a0_5) := (blk_cell BK183.out 5).trans rfl
         have hcz87_6 : wr.cell? ⟨gb183, 6, none⟩ = some (.int .i64 a0_6) := (blk_cell BK183.out 6).trans rfl
         have hcz87_7 : wr.cell? ⟨gb183, 7, none⟩ = some (.int .i64 a0_7) := (blk_cell BK183.out 7).trans rfl
         have hcz87_8 : wr.cell? ⟨gb183, 8, none⟩ = some (.string a0_8) := (blk_cell BK183.out 8).trans rfl
         have hcz87_9 : wr.cell? ⟨gb183, 9, none⟩ = some (.string a0_9) := (blk_cell BK183.out 9).trans rfl
         go_wp2_with (first | (go_at_call 11; (with_reducible refine (emit_Check.calls k1 a0_0 a0_1 a0_2 a0_3 a0_4 a0_5 a0_6 a0_7 a0_8 a0_9 t205 _ ?side1 A86.out).mono ?_); (case side1 => exact HE_.out.below (by repeat (first | (with_reducible first | exact HB.out | apply below_alloc | apply pw_below_drewN | apply below_drew1 | refine below_set ?_ GE183.out) | exact HB.out))); rintro e w88 ⟨rfl, hb⟩; have n0_ := Aside0.mk (Kd.R_below (by (with_reducible repeat (first | apply Kd.R_alloc | apply Kd.R_drewN | apply Kd.R_drew)); exact HO_22.out) hb); have n1_ := Aside0.mk (blk_below (g := gb183) (o := .cells #[.string a0_0, .string a0_1, .int .i64 a0_2, .int .i64 a0_3, .int .i64 a0_4, .int .i64 a0_5, .int .i64 a0_6, .int .i64 a0_7, .string a0_8, .string a0_9] 23 (0, 0)) (by (with_reducible repeat (first | refine blk_drewN ?_ _ | refine blk_drew ?_ | refine blk_alloc ?_ _)); exact BK183.out) hb); have n2_ := Aside0.mk (below_step (by repeat (first | (with_reducible first | exact HB.out | apply below_alloc | apply pw_below_drewN | apply below_drew1 | refine below_set ?_ GE183.out) | exact HB.out)) hb); clear HO_22; clear BK183; clear HB; have HO_22 := n0_; have BK183 := n1_; have HB := n2_; clear n0_ n1_ n2_; (try clear hb); (try clear hb2); (try clear hk); (try clear hi)))
         go_ret
         exact ⟨by first | rfl | (simp [errW_none, errW_some] <;> rfl) | (simp [*, errW_none, errW_some] <;> rfl), by repeat (first | (with_reducible first | exact HB.out | apply below_alloc | apply pw_below_drewN | apply below_drew1 | refine below_set ?_ GE183.out) | exact HB.out)⟩
       ·rw [if_neg c23] at H
        have c23b0 : decide (1 ≤ a0_2) = false := decide_eq_false c23
        clear c23
        replace H := Option.bind_eq_some_iff.mp H
        obtain ⟨t206, A890, H⟩ := H
        replace H : (some (t206 == 90)) = some r := H
        have A89 := Aside0.mk A890
        clear A890
        obtain rfl := Option.some.inj H
        have hcz90_0 : wr.cell? ⟨gb183, 0, none⟩ = some (.string a0_0) := (blk_cell BK183.out 0).trans rfl
        have hcz90_1 : wr.cell? ⟨gb183, 1, none⟩ = some (.string a0_1) := (blk_cell BK183.out 1).trans rfl
        have hcz90_2 : wr.cell? ⟨gb183, 2, none⟩ = some (.int .i64 a0_2) := (blk_cell BK183.out 2).trans rfl
        have hcz90_3 : wr.cell? ⟨gb183, 3, none⟩ = some (.int .i64 a0_3) := (blk_cell BK183.out 3).trans rfl
        have hcz90_4 : wr.cell? ⟨gb183, 4, none⟩ = some (.int .i64 a0_4) := (blk_cell BK183.out 4).trans rfl
        have hcz90_5 : wr.cell? ⟨gb183, 5, none⟩ = some (.int .i64 a0_5) := (blk_cell BK183.out 5).trans rfl
        have hcz90_6 : wr.cell? ⟨gb183, 6, none⟩ = some (.int .i64 a0_6) := (blk_cell BK183.out 6).trans rfl
        have hcz90_7 : wr.cell? ⟨gb183, 7, none⟩ = some (.int .i64 a0_7) := (blk_cell BK183.out 7).trans rfl
        have hcz90_8 : wr.cell? ⟨gb183, 8, none⟩ = some (.string a0_8) := (blk_cell BK183.out 8).trans rfl
        have hcz90_9 : wr.cell? ⟨gb183, 9, none⟩ = some (.string a0_9) := (blk_cell BK183.out 9).trans rfl
        go_wp2_with (first | (go_at_call 11; (with_reducible refine (emit_Check.calls k1 a0_0 a0_1 a0_2 a0_3 a0_4 a0_5 a0_6 a0_7 a0_8 a0_9 t206 _ ?side1 A89.out).mono ?_); (case side1 => exact HE_.out.below (by repeat (first | (with_reducible first | exact HB.out | apply below_alloc | apply pw_below_drewN | apply below_drew1 | refine below_set ?_ GE183.out) | exact HB.out))); rintro e w91 ⟨rfl, hb⟩; have n0_ := Aside0.mk (Kd.R_below (by (with_reducible repeat (first | apply Kd.R_alloc | apply Kd.R_drewN | apply Kd.R_drew)); exact HO_22.out) hb); have n1_ := Aside0.mk (blk_below (g := gb183) (o := .cells #[.string a0_0, .string a0_1, .int .i64 a0_2, .int .i64 a0_3, .int .i64 a0_4, .int .i64 a0_5, .int .i64 a0_6, .int .i64 a0_7, .string a0_8, .string a0_9] 23 (0, 0)) (by (with_reducible repeat (first | refine blk_drewN ?_ _ | refine blk_drew ?_ | refine blk_alloc ?_ _)); exact BK183.out) hb); have n2_ := Aside0.mk (below_step (by repeat (first | (with_reducible first | exact HB.out | apply below_alloc | apply pw_below_drewN | apply below_drew1 | refine below_set ?_ GE183.out) | exact HB.out)) hb); clear HO_22; clear BK183; clear HB; have HO_22 := n0_; have BK183 := n1_; have HB := n2_; clear n0_ n1_ n2_; (try clear hb); (try clear hb2); (try clear hk); (try clear hi)))
        go_ret
        exact ⟨by first | rfl | (simp [errW_none, errW_some] <;> rfl) | (simp [*, errW_none, errW_some] <;> rfl), by repeat (first | (with_reducible first | exact HB.out | apply below_alloc | apply pw_below_drewN | apply below_drew1 | refine below_set ?_ GE183.out) | exact HB.out)⟩
      ·rw [if_neg c22] at H
       have c22b0 : (a0_2 == 2) = false := beq_eq_false_iff_ne.mpr c22
       have c22b1 : (a0_2 != 2) = true := bne_iff_ne.mpr c22
       by_cases c92 : a0_2 ≥ 1
       ·rw [if_pos c92] at H
        have c92b0 : decide (1 ≤ a0_2) = true := decide_eq_true c92
        clear c92
        by_cases c93 : a0_2 ≤ 4
        ·rw [if_pos c93] at H
         have c93b0 : decide (a0_2 ≤ 4) = true := decide_eq_true c93
         clear c93
         by_cases c94 : a0_3 ≥ 0
         ·rw [if_pos c94] at H
          have c94b0 : decide (0 ≤ a0_3) = true := decide_eq_true c94
          clear c94
          by_cases c95 : a0_3 ≤ 4095
          ·rw [if_pos c95] at H
           have c95b0 : decide (a0_3 ≤ 4095) = true := decide_eq_true c95
           clear c95
           by_cases c96 : a0_4 ≥ 0
           ·rw [if_pos c96] at H
            have c96b0 : decide (0 ≤ a0_4) = true := decide_eq_true c96
            clear c96
            by_cases c97 : a0_5 ≥ 0
            ·rw [if_pos c97] at H
             have c97b0 : decide (0 ≤ a0_5) = true := decide_eq_true c97
             clear c97
             by_cases c98 : a0_7 ≥ 0
             ·rw [if_pos c98] at H
              have c98b0 : decide (0 ≤ a0_7) = true := decide_eq_true c98
              clear c98
              by_cases c99 : a0_2 = 1
              ·rw [if_pos c99] at H
               have c99b0 : (a0_2 == 1) = true := beq_iff_eq.mpr c99
               have c99b1 : (a0_2 != 1) = false := bne_eq_false_iff_eq.mpr c99
               clear c99
               by_cases c100 : ((a0_2 == 3) == (a0_1.toList != ([] : List UInt8))) = true
               ·rw [if_pos c100] at H
                have c100n_ : (a0_2 == 3) = !a0_1.toList.isEmpty := by clear H; cases hq_ : a0_1.toList <;> simp_all
                have c100b0 : ((a0_2 == 3) == (a0_1.toList != ([] : List UInt8))) = true := c100
                (try (have c100b1 : decide ((a0_2 == 3) = (a0_1.toList != ([] : List UInt8))) = true := by simpa using c100))
                (try (have c100b2 : ((a0_2 == 3) == (a0_1.toList != ([] : List UInt8))) = true := by simpa using c100))
                clear c100
                by_cases c101 : a0_0.toList = ([] : List UInt8)
                ·rw [if_pos c101] at H
                 have c101b0 : (a0_0.toList == ([] : List UInt8)) = true := beq_iff_eq.mpr c101
                 have c101b1 : (a0_0.toList != ([] : List UInt8)) = false := bne_eq_false_iff_eq.mpr c101
                 clear c101
                 replace H := Option.bind_eq_some_iff.mp H
                 obtain ⟨t207, A1020, H⟩ := H
                 replace H : (some (t207 == 90)) = some r := H
                 have A102 := Aside0.mk A1020
                 clear A1020
                 obtain rfl := Option.some.inj H
                 have hcz103_0 : wr.cell? ⟨gb183, 0, none⟩ = some (.string a0_0) := (blk_cell BK183.out 0).trans rfl
                 have hcz103_1 : wr.cell? ⟨gb183, 1, none⟩ = some (.string a0_1) := (blk_cell BK183.out 1).trans rfl
                 have hcz103_2 : wr.cell? ⟨gb183, 2, none⟩ = some (.int .i64 a0_2) := (blk_cell BK183.out 2).trans rfl
                 have hcz103_3 : wr.cell? ⟨gb183, 3, none⟩ = some (.int .i64 a0_3) := (blk_cell BK183.out 3).trans rfl
                 have hcz103_4 : wr.cell? ⟨gb183, 4, none⟩ = some (.int .i64 a0_4) := (blk_cell BK183.out 4).trans rfl
                 have hcz103_5 : wr.cell? ⟨gb183, 5, none⟩ = some (.int .i64 a0_5) := (blk_cell BK183.out 5).trans rfl
                 have hcz103_6 : wr.cell? ⟨gb183, 6, none⟩ = some (.int .i64 a0_6) := (blk_cell BK183.out 6).trans rfl
                 have hcz103_7 : wr.cell? ⟨gb183, 7, none⟩ = some (.int .i64 a0_7) := (blk_cell BK183.out 7).trans rfl
                 have hcz103_8 : wr.cell? ⟨gb183, 8, none⟩ = some (.string a0_8) := (blk_cell BK183.out 8).trans rfl
                 have hcz103_9 : wr.cell? ⟨gb183, 9, none⟩ = some (.string a0_9) := (blk_cell BK183.out 9).trans rfl
                 go_wp2_with (first | (go_at_call 11; (with_reducible refine (emit_Check.calls k1 a0_0 a0_1 a0_2 a0_3 a0_4 a0_5 a0_6 a0_7 a0_8 a0_9 t207 _ ?side1 A102.out).mono ?_); (case side1 => exact HE_.out.below (by repeat (first | (with_reducible first | exact HB.out | apply below_alloc | apply pw_below_drewN | apply below_drew1 | refine below_set ?_ GE183.out) | exact HB.out))); rintro e w104 ⟨rfl, hb⟩; have n0_ := Aside0.mk (Kd.R_below (by (with_reducible repeat (first | apply Kd.R_alloc | apply Kd.R_drewN | apply Kd.R_drew)); exact HO_22.out) hb); have n1_ := Aside0.mk (blk_below (g := gb183) (o := .cells #[.string a0_0, .string a0_1, .int .i64 a0_2, .int .i64 a0_3, .int .i64 a0_4, .int .i64 a0_5, .int .i64 a0_6, .int .i64 a0_7, .string a0_8, .string a0_9] 23 (0, 0)) (by (with_reducible repeat (first | refine blk_drewN ?_ _ | refine blk_drew ?_ | refine blk_alloc ?_ _)); exact BK183.out) hb); have n2_ := Aside0.mk (below_step (by repeat (first | (with_reducible first | exact HB.out | apply below_alloc | apply pw_below_drewN | apply below_drew1 | refine below_set ?_ GE183.out) | exact HB.out)) hb); clear HO_22; clear BK183; clear HB; have HO_22 := n0_; have BK183 := n1_; have HB := n2_; clear n0_ n1_ n2_; (try clear hb); (try clear hb2); (try clear hk); (try clear hi)))
                 go_ret
                 exact ⟨by first | rfl | (simp [errW_none, errW_some] <;> rfl) | (simp [*, errW_none, errW_some] <;> rfl), by repeat (first | (with_reducible first | exact HB.out | apply below_alloc | apply pw_below_drewN | apply below_drew1 | refine below_set ?_ GE183.out) | exact HB.out)⟩
                ·rw [if_neg c101] at H
                 have c101b0 : (a0_0.toList == ([] : List UInt8)) = false := beq_eq_false_iff_ne.mpr c101
                 have c101b1 : (a0_0.toList != ([] : List UInt8)) = true := bne_iff_ne.mpr c101
                 by_cases c105 : x3_1 = true
                 ·subst c105
                  have H1 : (if (¬ (true = true)) then (some false) else ((emit_Check.f k1 a0_0 a0_1 a0_2 a0_3 a0_4 a0_5 a0_6 a0_7 a0_8 a0_9).bind fun t208 => (some (t208 == 90)))) = some r := by rw [if_pos rfl] at H; exact H
                  clear H
                  have H := H1
                  clear H1
                  have H1 : ((emit_Check.f k1 a0_0 a0_1 a0_2 a0_3 a0_4 a0_5 a0_6 a0_7 a0_8 a0_9).bind fun t208 => (some (t208 == 90))) = some r := by rw [if_neg (by decide)] at H; exact H
                  clear H
                  have H := H1
                  clear H1
                  replace H := Option.bind_eq_some_iff.mp H
                  obtain ⟨t208, A1060, H⟩ := H
                  replace H : (some (t208 == 90)) = some r := H
                  have A106 := Aside0.mk A1060
                  clear A1060
                  obtain rfl := Option.some.inj H
                  have hcz107_0 : wr.cell? ⟨gb183, 0, none⟩ = some (.string a0_0) := (blk_cell BK183.out 0).trans rfl
                  have hcz107_1 : wr.cell? ⟨gb183, 1, none⟩ = some (.string a0_1) := (blk_cell BK183.out 1).trans rfl
                  have hcz107_2 : wr.cell? ⟨gb183, 2, none⟩ = some (.int .i64 a0_2) := (blk_cell BK183.out 2).trans rfl
                  have hcz107_3 : wr.cell? ⟨gb183, 3, none⟩ = some (.int .i64 a0_3) := (blk_cell BK183.out 3).trans rfl
                  have hcz107_4 : wr.cell? ⟨gb183, 4, none⟩ = some (.int .i64 a0_4) := (blk_cell BK183.out 4).trans rfl
                  have hcz107_5 : wr.cell? ⟨gb183, 5, none⟩ = some (.int .i64 a0_5) := (blk_cell BK183.out 5).trans rfl
                  have hcz107_6 : wr.cell? ⟨gb183, 6, none⟩ = some (.int .i64 a0_6) := (blk_cell BK183.out 6).trans rfl
                  have hcz107_7 : wr.cell? ⟨gb183, 7, none⟩ = some (.int .i64 a0_7) := (blk_cell BK183.out 7).trans rfl
                  have hcz107_8 : wr.cell? ⟨gb183, 8, none⟩ = some (.string a0_8) := (blk_cell BK183.out 8).trans rfl
                  have hcz107_9 : wr.cell? ⟨gb183, 9, none⟩ = some (.string a0_9) := (blk_cell BK183.out 9).trans rfl
                  go_wp2_with (first | (go_at_call 11; (with_reducible refine (emit_Check.calls k1 a0_0 a0_1 a0_2 a0_3 a0_4 a0_5 a0_6 a0_7 a0_8 a0_9 t208 _ ?side1 A106.out).mono ?_); (case side1 => exact HE_.out.below (by repeat (first | (with_reducible first | exact HB.out | apply below_alloc | apply pw_below_drewN | apply below_drew1 | refine below_set ?_ GE183.out) | exact HB.out))); rintro e w108 ⟨rfl, hb⟩; have n0_ := Aside0.mk (Kd.R_below (by (with_reducible repeat (first | apply Kd.R_alloc | apply Kd.R_drewN | apply Kd.R_drew)); exact HO_22.out) hb); have n1_ := Aside0.mk (blk_below (g := gb183) (o := .cells #[.string a0_0, .string a0_1, .int .i64 a0_2, .int .i64 a0_3, .int .i64 a0_4, .int .i64 a0_5, .int .i64 a0_6, .int .i64 a0_7, .string a0_8, .string a0_9] 23 (0, 0)) (by (with_reducible repeat (first | refine blk_drewN ?_ _ | refine blk_drew ?_ | refine blk_alloc ?_ _)); exact BK183.out) hb); have n2_ := Aside0.mk (below_step (by repeat (first | (with_reducible first | exact HB.out | apply below_alloc | apply pw_below_drewN | apply below_drew1 | refine below_set ?_ GE183.out) | exact HB.out)) hb); clear HO_22; clear BK183; clear HB; have HO_22 := n0_; have BK183 := n1_; have HB := n2_; clear n0_ n1_ n2_; (try clear hb); (try clear hb2); (try clear hk); (try clear hi)))
                  go_ret
                  exact ⟨by first | rfl | (simp [errW_none, errW_some] <;> rfl) | (simp [*, errW_none, errW_some] <;> rfl), by repeat (first | (with_reducible first | exact HB.out | apply below_alloc | apply pw_below_drewN | apply below_drew1 | refine below_set ?_ GE183.out) | exact HB.out)⟩
                 ·replace c105 := Bool.eq_false_iff.mpr c105
                  subst c105
                  have H1 : ((emit_Check.f k1 a0_0 a0_1 a0_2 a0_3 a0_4 a0_5 a0_6 a0_7 a0_8 a0_9).bind fun t209 => (if t209 = 0 then (some true) else (if (¬ (false = true)) then (some false) else ((emit_Check.f k1 a0_0 a0_1 a0_2 a0_3 a0_4 a0_5 a0_6 a0_7 a0_8 a0_9).bind fun t210 => (some (t210 == 90)))))) = some r := by rw [if_neg (show ¬ (false = true) by decide)] at H; exact H
                  clear H
                  have H := H1
                  clear H1
                  replace H := Option.bind_eq_some_iff.mp H
                  obtain ⟨t209, A1090, H⟩ := H
                  replace H : (if t209 = 0 then (some true) else (if (¬ (false = true)) then (some false) else ((emit_Check.f k1 a0_0 a0_1 a0_2 a0_3 a0_4 a0_5 a0_6 a0_7 a0_8 a0_9).bind fun t210 => (some (t210 == 90))))) = some r := H
                  have A109 := Aside0.mk A1090
                  clear A1090
                  by_cases c110 : t209 = 0
                  ·rw [if_pos c110] at H
                   have c110b0 : (t209 == 0) = true := beq_iff_eq.mpr c110
                   have c110b1 : (t209 != 0) = false := bne_eq_false_iff_eq.mpr c110
                   clear c110
                   obtain rfl := Option.some.inj H
                   have hcz111_0 : wr.cell? ⟨gb183, 0, none⟩ = some (.string a0_0) := (blk_cell BK183.out 0).trans rfl
                   have hcz111_1 : wr.cell? ⟨gb183, 1, none⟩ = some (.string a0_1) := (blk_cell BK183.out 1).trans rfl
                   have hcz111_2 : wr.cell? ⟨gb183, 2, none⟩ = some (.int .i64 a0_2) := (blk_cell BK183.out 2).trans rfl
                   have hcz111_3 : wr.cell? ⟨gb183, 3, none⟩ = some (.int .i64 a0_3) := (blk_cell BK183.out 3).trans rfl
                   have hcz111_4 : wr.cell? ⟨gb183, 4, none⟩ = some (.int .i64 a0_4) := (blk_cell BK183.out 4).trans rfl
                   have hcz111_5 : wr.cell? ⟨gb183, 5, none⟩ = some (.int .i64 a0_5) := (blk_cell BK183.out 5).trans rfl
                   have hcz111_6 : wr.cell? ⟨gb183, 6, none⟩ = some (.int .i64 a0_6) := (blk_cell BK183.out 6).trans rfl
                   have hcz111_7 : wr.cell? ⟨gb183, 7, none⟩ = some (.int .i64 a0_7) := (blk_cell BK183.out 7).trans rfl
                   have hcz111_8 : wr.cell? ⟨gb183, 8, none⟩ = some (.string a0_8) := (blk_cell BK183.out 8).trans rfl
                   have hcz111_9 : wr.cell? ⟨gb183, 9, none⟩ = some (.string a0_9) := (blk_cell BK183.out 9).trans rfl
                   go_wp2_with (first | (go_at_call 11; (with_reducible refine (emit_Check.calls k1 a0_0 a0_1 a0_2 a0_3 a0_4 a0_5 a0_6 a0_7 a0_8 a0_9 t209 _ ?side1 A109.out).mono ?_); (case side1 => exact HE_.out.below (by repeat (first | (with_reducible first | exact HB.out | apply below_alloc | apply pw_below_drewN | apply below_drew1 | refine below_set ?_ GE183.out) | exact HB.out))); rintro e w112 ⟨rfl, hb⟩; have n0_ := Aside0.mk (Kd.R_below (by (with_reducible repeat (first | apply Kd.R_alloc | apply Kd.R_drewN | apply Kd.R_drew)); exact HO_22.out) hb); have n1_ := Aside0.mk (blk_below (g := gb183) (o := .cells #[.string a0_0, .string a0_1, .int .i64 a0_2, .int .i64 a0_3, .int .i64 a0_4, .int .i64 a0_5, .int .i64 a0_6, .int .i64 a0_7, .string a0_8, .string a0_9] 23 (0, 0)) (by (with_reducible repeat (first | refine blk_drewN ?_ _ | refine blk_drew ?_ | refine blk_alloc ?_ _)); exact BK183.out) hb); have n2_ := Aside0.mk (below_step (by repeat (first | (with_reducible first | exact HB.out | apply below_alloc | apply pw_below_drewN | apply below_drew1 | refine below_set ?_ GE183.out) | exact HB.out)) hb); clear HO_22; clear BK183; clear HB; have HO_22 := n0_; have BK183 := n1_; have HB := n2_; clear n0_ n1_ n2_; (try clear hb); (try clear hb2); (try clear hk); (try clear hi)))
                   go_ret
                   exact ⟨by first | rfl | (simp [errW_none, errW_some] <;> rfl) | (simp [*, errW_none, errW_some] <;> rfl), by repeat (first | (with_reducible first | exact HB.out | apply below_alloc | apply pw_below_drewN | apply below_drew1 | refine below_set ?_ GE183.out) | exact HB.out)⟩
                  ·rw [if_neg c110] at H
                   have c110b0 : (t209 == 0) = false := beq_eq_false_iff_ne.mpr c110
                   have c110b1 : (t209 != 0) = true := bne_iff_ne.mpr c110
                   have H1 : (some false) = some r := by rw [if_pos (by decide)] at H; exact H
                   clear H
                   have H := H1
                   clear H1
                   obtain rfl := Option.some.inj H
                   have hcz113_0 : wr.cell? ⟨gb183, 0, none⟩ = some (.string a0_0) := (blk_cell BK183.out 0).trans rfl
                   have hcz113_1 : wr.cell? ⟨gb183, 1, none⟩ = some (.string a0_1) := (blk_cell BK183.out 1).trans rfl
                   have hcz113_2 : wr.cell? ⟨gb183, 2, none⟩ = some (.int .i64 a0_2) := (blk_cell BK183.out 2).trans rfl
                   have hcz113_3 : wr.cell? ⟨gb183, 3, none⟩ = some (.int .i64 a0_3) := (blk_cell BK183.out 3).trans rfl
                   have hcz113_4 : wr.cell? ⟨gb183, 4, none⟩ = some (.int .i64 a0_4) := (blk_cell BK183.out 4).trans rfl
                   have hcz113_5 : wr.cell? ⟨gb183, 5, none⟩ = some (.int .i64 a0_5) := (blk_cell BK183.out 5).trans rfl
                   have hcz113_6 : wr.cell? ⟨gb183, 6, none⟩ = some (.int .i64 a0_6) := (blk_cell BK183.out 6).trans rfl
                   have hcz113_7 : wr.cell? ⟨gb183, 7, none⟩ = some (.int .i64 a0_7) := (blk_cell BK183.out 7).trans rfl
                   have hcz113_8 : wr.cell? ⟨gb183, 8, none⟩ = some (.string a0_8) := (blk_cell BK183.out 8).trans rfl
                   have hcz113_9 : wr.cell? ⟨gb183, 9, none⟩ = some (.string a0_9) := (blk_cell BK183.out 9).trans rfl
                   go_wp2_with (first | (go_at_call 11; (with_reducible refine (emit_Check.calls k1 a0_0 a0_1 a0_2 a0_3 a0_4 a0_5 a0_6 a0_7 a0_8 a0_9 t209 _ ?side1 A109.out).mono ?_); (case side1 => exact HE_.out.below (by repeat (first | (with_reducible first | exact HB.out | apply below_alloc | apply pw_below_drewN | apply below_drew1 | refine below_set ?_ GE183.out) | exact HB.out))); rintro e w114 ⟨rfl, hb⟩; have n0_ := Aside0.mk (Kd.R_below (by (with_reducible repeat (first | apply Kd.R_alloc | apply Kd.R_drewN | apply Kd.R_drew)); exact HO_22.out) hb); have n1_ := Aside0.mk (blk_below (g := gb183) (o := .cells #[.string a0_0, .string a0_1, .int .i64 a0_2, .int .i64 a0_3, .int .i64 a0_4, .int .i64 a0_5, .int .i64 a0_6, .int .i64 a0_7, .string a0_8, .string a0_9] 23 (0, 0)) (by (with_reducible repeat (first | refine blk_drewN ?_ _ | refine blk_drew ?_ | refine blk_alloc ?_ _)); exact BK183.out) hb); have n2_ := Aside0.mk (below_step (by repeat (first | (with_reducible first | exact HB.out | apply below_alloc | apply pw_below_drewN | apply below_drew1 | refine below_set ?_ GE183.out) | exact HB.out)) hb); clear HO_22; clear BK183; clear HB; have HO_22 := n0_; have BK183 := n1_; have HB := n2_; clear n0_ n1_ n2_; (try clear hb); (try clear hb2); (try clear hk); (try clear hi)))
                   go_ret
                   exact ⟨by first | rfl | (simp [errW_none, errW_some] <;> rfl) | (simp [*, errW_none, errW_some] <;> rfl), by repeat (first | (with_reducible first | exact HB.out | apply below_alloc | apply pw_below_drewN | apply below_drew1 | refine below_set ?_ GE183.out) | exact HB.out)⟩
               ·rw [if_neg c100] at H
                have c100n_ : ¬ (a0_2 == 3) = !a0_1.toList.isEmpty := by intro h_; exact c100 (by rw [h_]; generalize a0_1.toList = l_; cases l_ <;> rfl)
                have c100b0 : ((a0_2 == 3) == (a0_1.toList != ([] : List UInt8))) = false := by simpa using c100
                (try (have c100b1 : decide ((a0_2 == 3) = (a0_1.toList != ([] : List UInt8))) = false := by simpa using c100))
                (try (have c100b2 : ((a0_2 == 3) == (a0_1.toList != ([] : List UInt8))) = false := by simpa using c100))
                (try (have c100b3 : ¬ ((a0_2 == 3) = (a0_1.toList != ([] : List UInt8))) := by simpa using c100))
                clear c100
                replace H := Option.bind_eq_some_iff.mp H
                obtain ⟨t211, A1150, H⟩ := H
                replace H : (some (t211 == 90)) = some r := H
                have A115 := Aside0.mk A1150
                clear A1150
                obtain rfl := Option.some.inj H
                have hcz116_0 : wr.cell? ⟨gb183, 0, none⟩ = some (.string a0_0) := (blk_cell BK183.out 0).trans rfl
                have hcz116_1 : wr.cell? ⟨gb183, 1, none⟩ = some (.string a0_1) := (blk_cell BK183.out 1).trans rfl
                have hcz116_2 : wr.cell? ⟨gb183, 2, none⟩ = some (.int .i64 a0_2) := (blk_cell BK183.out 2).trans rfl
                have hcz116_3 : wr.cell? ⟨gb183, 3, none⟩ = some (.int .i64 a0_3) := (blk_cell BK183.out 3).trans rfl
                have hcz116_4 : wr.cell? ⟨gb183, 4, none⟩ = some (.int .i64 a0_4) := (blk_cell BK183.out 4).trans rfl
                have hcz116_5 : wr.cell? ⟨gb183, 5, none⟩ = some (.int .i64 a0_5) := (blk_cell BK183.out 5).trans rfl
                have hcz116_6 : wr.cell? ⟨gb183, 6, none⟩ = some (.int .i64 a0_6) := (blk_cell BK183.out 6).trans rfl
                have hcz116_7 : wr.cell? ⟨gb183, 7, none⟩ = some (.int .i64 a0_7) := (blk_cell BK183.out 7).trans rfl
                have hcz116_8 : wr.cell? ⟨gb183, 8, none⟩ = some (.string a0_8) := (blk_cell BK183.out 8).trans rfl
                have hcz116_9 : wr.cell? ⟨gb183, 9, none⟩ = some (.string a0_9) := (blk_cell BK183.out 9).trans rfl
                go_wp2_with (first | (go_at_call 11; (with_reducible refine (emit_Check.calls k1 a0_0 a0_1 a0_2 a0_3 a0_4 a0_5 a0_6 a0_7 a0_8 a0_9 t211 _ ?side1 A115.out).mono ?_); (case side1 => exact HE_.out.below (by repeat (first | (with_reducible first | exact HB.out | apply below_alloc | apply pw_below_drewN | apply below_drew1 | refine below_set ?_ GE183.out) | exact HB.out))); rintro e w117 ⟨rfl, hb⟩; have n0_ := Aside0.mk (Kd.R_below (by (with_reducible repeat (first | apply Kd.R_alloc | apply Kd.R_drewN | apply Kd.R_drew)); exact HO_22.out) hb); have n1_ := Aside0.mk (blk_below (g := gb183) (o := .cells #[.string a0_0, .string a0_1, .int .i64 a0_2, .int .i64 a0_3, .int .i64 a0_4, .int .i64 a0_5, .int .i64 a0_6, .int .i64 a0_7, .string a0_8, .string a0_9] 23 (0, 0)) (by (with_reducible repeat (first | refine blk_drewN ?_ _ | refine blk_drew ?_ | refine blk_alloc ?_ _)); exact BK183.out) hb); have n2_ := Aside0.mk (below_step (by repeat (first | (with_reducible first | exact HB.out | apply below_alloc | apply pw_below_drewN | apply below_drew1 | refine below_set ?_ GE183.out) | exact HB.out)) hb); clear HO_22; clear BK183; clear HB; have HO_22 := n0_; have BK183 := n1_; have HB := n2_; clear n0_ n1_ n2_; (try clear hb); (try clear hb2); (try clear hk); (try clear hi)))
                go_ret
                exact ⟨by first | rfl | (simp [errW_none, errW_some] <;> rfl) | (simp [*, errW_none, errW_some] <;> rfl), by repeat (first | (with_reducible first | exact HB.out | apply below_alloc | apply pw_below_drewN | apply below_drew1 | refine below_set ?_ GE183.out) | exact HB.out)⟩
              ·rw [if_neg c99] at H
               have c99b0 : (a0_2 == 1) = false := beq_eq_false_iff_ne.mpr c99
               have c99b1 : (a0_2 != 1) = true := bne_iff_ne.mpr c99
               by_cases c118 : a0_7 = 0
               ·rw [if_pos c118] at H
                have c118b0 : (a0_7 == 0) = true := beq_iff_eq.mpr c118
                have c118b1 : (a0_7 != 0) = false := bne_eq_false_iff_eq.mpr c118
                clear c118
                by_cases c119 : ((a0_2 == 3) == (a0_1.toList != ([] : List UInt8))) = true
                ·rw [if_pos c119] at H
                 have c119n_ : (a0_2 == 3) = !a0_1.toList.isEmpty := by clear H; cases hq_ : a0_1.toList <;> simp_all
                 have c119b0 : ((a0_2 == 3) == (a0_1.toList != ([] : List UInt8))) = true := c119
                 (try (have c119b1 : decide ((a0_2 == 3) = (a0_1.toList != ([] : List UInt8))) = true := by simpa using c119))
                 (try (have c119b2 : ((a0_2 == 3) == (a0_1.toList != ([] : List UInt8))) = true := by simpa using c119))
                 clear c119
                 by_cases c120 : a0_0.toList = ([] : List UInt8)
                 ·rw [if_pos c120] at H
                  have c120b0 : (a0_0.toList == ([] : List UInt8)) = true := beq_iff_eq.mpr c120
                  have c120b1 : (a0_0.toList != ([] : List UInt8)) = false := bne_eq_false_iff_eq.mpr c120
                  clear c120
                  replace H := Option.bind_eq_some_iff.mp H
                  obtain ⟨t212, A1210, H⟩ := H
                  replace H : (some (t212 == 90)) = some r := H
                  have A121 := Aside0.mk A1210
                  clear A1210
                  obtain rfl := Option.some.inj H
                  have hcz122_0 : wr.cell? ⟨gb183, 0, none⟩ = some (.string a0_0) := (blk_cell BK183.out 0).trans rfl
                  have hcz122_1 : wr.cell? ⟨gb183, 1, none⟩ = some (.string a0_1) := (blk_cell BK183.out 1).trans rfl
                  have hcz122_2 : wr.cell? ⟨gb183, 2, none⟩ = some (.int .i64 a0_2) := (blk_cell BK183.out 2).trans rfl
                  have hcz122_3 : wr.cell? ⟨gb183, 3, none⟩ = some (.int .i64 a0_3) := (blk_cell BK183.out 3).trans rfl
                  have hcz122_4 : wr.cell? ⟨gb183, 4, none⟩ = some (.int .i64 a0_4) := (blk_cell BK183.out 4).trans rfl
                  have hcz122_5 : wr.cell? ⟨gb183, 5, none⟩ = some (.int .i64 a0_5) := (blk_cell BK183.out 5).trans rfl
                  have hcz122_6 : wr.cell? ⟨gb183, 6, none⟩ = some (.int .i64 a0_6) := (blk_cell BK183.out 6).trans rfl
                  have hcz122_7 : wr.cell? ⟨gb183, 7, none⟩ = some (.int .i64 a0_7) := (blk_cell BK183.out 7).trans rfl
                  have hcz122_8 : wr.cell? ⟨gb183, 8, none⟩ = some (.string a0_8) := (blk_cell BK183.out 8).trans rfl
                  have hcz122_9 : wr.cell? ⟨gb183, 9, none⟩ = some (.string a0_9) := (blk_cell BK183.out 9).trans rfl
                  go_wp2_with (first | (go_at_call 11; (with_reducible refine (emit_Check.calls k1 a0_0 a0_1 a0_2 a0_3 a0_4 a0_5 a0_6 a0_7 a0_8 a0_9 t212 _ ?side1 A121.out).mono ?_); (case side1 => exact HE_.out.below (by repeat (first | (with_reducible first | exact HB.out | apply below_alloc | apply pw_below_drewN | apply below_drew1 | refine below_set ?_ GE183.out) | exact HB.out))); rintro e w123 ⟨rfl, hb⟩; have n0_ := Aside0.mk (Kd.R_below (by (with_reducible repeat (first | apply Kd.R_alloc | apply Kd.R_drewN | apply Kd.R_drew)); exact HO_22.out) hb); have n1_ := Aside0.mk (blk_below (g := gb183) (o := .cells #[.string a0_0, .string a0_1, .int .i64 a0_2, .int .i64 a0_3, .int .i64 a0_4, .int .i64 a0_5, .int .i64 a0_6, .int .i64 a0_7, .string a0_8, .string a0_9] 23 (0, 0)) (by (with_reducible repeat (first | refine blk_drewN ?_ _ | refine blk_drew ?_ | refine blk_alloc ?_ _)); exact BK183.out) hb); have n2_ := Aside0.mk (below_step (by repeat (first | (with_reducible first | exact HB.out | apply below_alloc | apply pw_below_drewN | apply below_drew1 | refine below_set ?_ GE183.out) | exact HB.out)) hb); clear HO_22; clear BK183; clear HB; have HO_22 := n0_; have BK183 := n1_; have HB := n2_; clear n0_ n1_ n2_; (try clear hb); (try clear hb2); (try clear hk); (try clear hi)))
                  go_ret
                  exact ⟨by first | rfl | (simp [errW_none, errW_some] <;> rfl) | (simp [*, errW_none, errW_some] <;> rfl), by repeat (first | (with_reducible first | exact HB.out | apply below_alloc | apply pw_below_drewN | apply below_drew1 | refine below_set ?_ GE183.out) | exact HB.out)⟩
                 ·rw [if_neg c120] at H
                  have c120b0 : (a0_0.toList == ([] : List UInt8)) = false := beq_eq_false_iff_ne.mpr c120
                  have c120b1 : (a0_0.toList != ([] : List UInt8)) = true := bne_iff_ne.mpr c120
                  by_cases c124 : x3_1 = true
                  ·subst c124
                   have H1 : (if (¬ (true = true)) then (some false) else ((emit_Check.f k1 a0_0 a0_1 a0_2 a0_3 a0_4 a0_5 a0_6 a0_7 a0_8 a0_9).bind fun t213 => (some (t213 == 90)))) = some r := by rw [if_pos rfl] at H; exact H
                   clear H
                   have H := H1
                   clear H1
                   have H1 : ((emit_Check.f k1 a0_0 a0_1 a0_2 a0_3 a0_4 a0_5 a0_6 a0_7 a0_8 a0_9).bind fun t213 => (some (t213 == 90))) = some r := by rw [if_neg (by decide)] at H; exact H
                   clear H
                   have H := H1
                   clear H1
                   replace H := Option.bind_eq_some_iff.mp H
                   obtain ⟨t213, A1250, H⟩ := H
                   replace H : (some (t213 == 90)) = some r := H
                   have A125 := Aside0.mk A1250
                   clear A1250
                   obtain rfl := Option.some.inj H
                   have hcz126_0 : wr.cell? ⟨gb183, 0, none⟩ = some (.string a0_0) := (blk_cell BK183.out 0).trans rfl
                   have hcz126_1 : wr.cell? ⟨gb183, 1, none⟩ = some (.string a0_1) := (blk_cell BK183.out 1).trans rfl
                   have hcz126_2 : wr.cell? ⟨gb183, 2, none⟩ = some (.int .i64 a0_2) := (blk_cell BK183.out 2).trans rfl
                   have hcz126_3 : wr.cell? ⟨gb183, 3, none⟩ = some (.int .i64 a0_3) := (blk_cell BK183.out 3).trans rfl
                   have hcz126_4 : wr.cell? ⟨gb183, 4, none⟩ = some (.int .i64 a0_4) := (blk_cell BK183.out 4).trans rfl
                   have hcz126_5 : wr.cell? ⟨gb183, 5, none⟩ = some (.int .i64 a0_5) := (blk_cell BK183.out 5).trans rfl
                   have hcz126_6 : wr.cell? ⟨gb183, 6, none⟩ = some (.int .i64 a0_6) := (blk_cell BK183.out 6).trans rfl
                   have hcz126_7 : wr.cell? ⟨gb183, 7, none⟩ = some (.int .i64 a0_7) := (blk_cell BK183.out 7).trans rfl
                   have hcz126_8 : wr.cell? ⟨gb183, 8, none⟩ = some (.string a0_8) := (blk_cell BK183.out 8).trans rfl
                   have hcz126_9 : wr.cell? ⟨gb183, 9, none⟩ = some (.string a0_9) := (blk_cell BK183.out 9).trans rfl
                   go_wp2_with (first | (go_at_call 11; (with_reducible refine (emit_Check.calls k1 a0_0 a0_1 a0_2 a0_3 a0_4 a0_5 a0_6 a0_7 a0_8 a0_9 t213 _ ?side1 A125.out).mono ?_); (case side1 => exact HE_.out.below (by repeat (first | (with_reducible first | exact HB.out | apply below_alloc | apply pw_below_drewN | apply below_drew1 | refine below_set ?_ GE183.out) | exact HB.out))); rintro e w127 ⟨rfl, hb⟩; have n0_ := Aside0.mk (Kd.R_below (by (with_reducible repeat (first | apply Kd.R_alloc | apply Kd.R_drewN | apply Kd.R_drew)); exact HO_22.out) hb); have n1_ := Aside0.mk (blk_below (g := gb183) (o := .cells #[.string a0_0, .string a0_1, .int .i64 a0_2, .int .i64 a0_3, .int .i64 a0_4, .int .i64 a0_5, .int .i64 a0_6, .int .i64 a0_7, .string a0_8, .string a0_9] 23 (0, 0)) (by (with_reducible repeat (first | refine blk_drewN ?_ _ | refine blk_drew ?_ | refine blk_alloc ?_ _)); exact BK183.out) hb); have n2_ := Aside0.mk (below_step (by repeat (first | (with_reducible first | exact HB.out | apply below_alloc | apply pw_below_drewN | apply below_drew1 | refine below_set ?_ GE183.out) | exact HB.out)) hb); clear HO_22; clear BK183; clear HB; have HO_22 := n0_; have BK183 := n1_; have HB := n2_; clear n0_ n1_ n2_; (try clear hb); (try clear hb2); (try clear hk); (try clear hi)))
                   go_ret
                   exact ⟨by first | rfl | (simp [errW_none, errW_some] <;> rfl) | (simp [*, errW_none, errW_some] <;> rfl), by repeat (first | (with_reducible first | exact HB.out | apply below_alloc | apply pw_below_drewN | apply below_drew1 | refine below_set ?_ GE183.out) | exact HB.out)⟩
                  ·replace c124 := Bool.eq_false_iff.mpr c124
                   subst c124
                   have H1 : ((emit_Check.f k1 a0_0 a0_1 a0_2 a0_3 a0_4 a0_5 a0_6 a0_7 a0_8 a0_9).bind fun t214 => (if t214 = 0 then (some true) else (if (¬ (false = true)) then (some false) else ((emit_Check.f k1 a0_0 a0_1 a0_2 a0_3 a0_4 a0_5 a0_6 a0_7 a0_8 a0_9).bind fun t215 => (some (t215 == 90)))))) = some r := by rw [if_neg (show ¬ (false = true) by decide)] at H; exact H
                   clear H
                   have H := H1
                   clear H1
                   replace H := Option.bind_eq_some_iff.mp H
                   obtain ⟨t214, A1280, H⟩ := H
                   replace H : (if t214 = 0 then (some true) else (if (¬ (false = true)) then (some false) else ((emit_Check.f k1 a0_0 a0_1 a0_2 a0_3 a0_4 a0_5 a0_6 a0_7 a0_8 a0_9).bind fun t215 => (some (t215 == 90))))) = some r := H
                   have A128 := Aside0.mk A1280
                   clear A1280
                   by_cases c129 : t214 = 0
                   ·rw [if_pos c129] at H
                    have c129b0 : (t214 == 0) = true := beq_iff_eq.mpr c129
                    have c129b1 : (t214 != 0) = false := bne_eq_false_iff_eq.mpr c129
                    clear c129
                    obtain rfl := Option.some.inj H
                    have hcz130_0 : wr.cell? ⟨gb183, 0, none⟩ = some (.string a0_0) := (blk_cell BK183.out 0).trans rfl
                    have hcz130_1 : wr.cell? ⟨gb183, 1, none⟩ = some (.string a0_1) := (blk_cell BK183.out 1).trans rfl
                    have hcz130_2 : wr.cell? ⟨gb183, 2, none⟩ = some (.int .i64 a0_2) := (blk_cell BK183.out 2).trans rfl
                    have hcz130_3 : wr.cell? ⟨gb183, 3, none⟩ = some (.int .i64 a0_3) := (blk_cell BK183.out 3).trans rfl
                    have hcz130_4 : wr.cell? ⟨gb183, 4, none⟩ = some (.int .i64 a0_4) := (blk_cell BK183.out 4).trans rfl
                    have hcz130_5 : wr.cell? ⟨gb183, 5, none⟩ = some (.int .i64 a0_5) := (blk_cell BK183.out 5).trans rfl
                    have hcz130_6 : wr.cell? ⟨gb183, 6, none⟩ = some (.int .i64 a0_6) := (blk_cell BK183.out 6).trans rfl
                    have hcz130_7 : wr.cell? ⟨gb183, 7, none⟩ = some (.int .i64 a0_7) := (blk_cell BK183.out 7).trans rfl
                    have hcz130_8 : wr.cell? ⟨gb183, 8, none⟩ = some (.string a0_8) := (blk_cell BK183.out 8).trans rfl
                    have hcz130_9 : wr.cell? ⟨gb183, 9, none⟩ = some (.string a0_9) := (blk_cell BK183.out 9).trans rfl
                    go_wp2_with (first | (go_at_call 11; (with_reducible refine (emit_Check.calls k1 a0_0 a0_1 a0_2 a0_3 a0_4 a0_5 a0_6 a0_7 a0_8 a0_9 t214 _ ?side1 A128.out).mono ?_); (case side1 => exact HE_.out.below (by repeat (first | (with_reducible first | exact HB.out | apply below_alloc | apply pw_below_drewN | apply below_drew1 | refine below_set ?_ GE183.out) | exact HB.out))); rintro e w131 ⟨rfl, hb⟩; have n0_ := Aside0.mk (Kd.R_below (by (with_reducible repeat (first | apply Kd.R_alloc | apply Kd.R_drewN | apply Kd.R_drew)); exact HO_22.out) hb); have n1_ := Aside0.mk (blk_below (g := gb183) (o := .cells #[.string a0_0, .string a0_1, .int .i64 a0_2, .int .i64 a0_3, .int .i64 a0_4, .int .i64 a0_5, .int .i64 a0_6, .int .i64 a0_7, .string a0_8, .string a0_9] 23 (0, 0)) (by (with_reducible repeat (first | refine blk_drewN ?_ _ | refine blk_drew ?_ | refine blk_alloc ?_ _)); exact BK183.out) hb); have n2_ := Aside0.mk (below_step (by repeat (first | (with_reducible first | exact HB.out | apply below_alloc | apply pw_below_drewN | apply below_drew1 | refine below_set ?_ GE183.out) | exact HB.out)) hb); clear HO_22; clear BK183; clear HB; have HO_22 := n0_; have BK183 := n1_; have HB := n2_; clear n0_ n1_ n2_; (try clear hb); (try clear hb2); (try clear hk); (try clear hi)))
                    go_ret
                    exact ⟨by first | rfl | (simp [errW_none, errW_some] <;> rfl) | (simp [*, errW_none, errW_some] <;> rfl), by repeat (first | (with_reducible first | exact HB.out | apply below_alloc | apply pw_below_drewN | apply below_drew1 | refine below_set ?_ GE183.out) | exact HB.out)⟩
                   ·rw [if_neg c129] at H
                    have c129b0 : (t214 == 0) = false := beq_eq_false_iff_ne.mpr c129
                    have c129b1 : (t214 != 0) = true := bne_iff_ne.mpr c129
                    have H1 : (some false) = some r := by rw [if_pos (by decide)] at H; exact H
                    clear H
                    have H := H1
                    clear H1
                    obtain rfl := Option.some.inj H
                    have hcz132_0 : wr.cell? ⟨gb183, 0, none⟩ = some (.string a0_0) := (blk_cell BK183.out 0).trans rfl
                    have hcz132_1 : wr.cell? ⟨gb183, 1, none⟩ = some (.string a0_1) := (blk_cell BK183.out 1).trans rfl
                    have hcz132_2 : wr.cell? ⟨gb183, 2, none⟩ = some (.int .i64 a0_2) := (blk_cell BK183.out 2).trans rfl
                    have hcz132_3 : wr.cell? ⟨gb183, 3, none⟩ = some (.int .i64 a0_3) := (blk_cell BK183.out 3).trans rfl
                    have hcz132_4 : wr.cell? ⟨gb183, 4, none⟩ = some (.int .i64 a0_4) := (blk_cell BK183.out 4).trans rfl
                    have hcz132_5 : wr.cell? ⟨gb183, 5, none⟩ = some (.int .i64 a0_5) := (blk_cell BK183.out 5).trans rfl
                    have hcz132_6 : wr.cell? ⟨gb183, 6, none⟩ = some (.int .i64 a0_6) := (blk_cell BK183.out 6).trans rfl
                    have hcz132_7 : wr.cell? ⟨gb183, 7, none⟩ = some (.int .i64 a0_7) := (blk_cell BK183.out 7).trans rfl
                    have hcz132_8 : wr.cell? ⟨gb183, 8, none⟩ = some (.string a0_8) := (blk_cell BK183.out 8).trans rfl
                    have hcz132_9 : wr.cell? ⟨gb183, 9, none⟩ = some (.string a0_9) := (blk_cell BK183.out 9).trans rfl
                    go_wp2_with (first | (go_at_call 11; (with_reducible refine (emit_Check.calls k1 a0_0 a0_1 a0_2 a0_3 a0_4 a0_5 a0_6 a0_7 a0_8 a0_9 t214 _ ?side1 A128.out).mono ?_); (case side1 => exact HE_.out.below (by repeat (first | (with_reducible first | exact HB.out | apply below_alloc | apply pw_below_drewN | apply below_drew1 | refine below_set ?_ GE183.out) | exact HB.out))); rintro e w133 ⟨rfl, hb⟩; have n0_ := Aside0.mk (Kd.R_below (by (with_reducible repeat (first | apply Kd.R_alloc | apply Kd.R_drewN | apply Kd.R_drew)); exact HO_22.out) hb); have n1_ := Aside0.mk (blk_below (g := gb183) (o := .cells #[.string a0_0, .string a0_1, .int .i64 a0_2, .int .i64 a0_3, .int .i64 a0_4, .int .i64 a0_5, .int .i64 a0_6, .int .i64 a0_7, .string a0_8, .string a0_9] 23 (0, 0)) (by (with_reducible repeat (first | refine blk_drewN ?_ _ | refine blk_drew ?_ | refine blk_alloc ?_ _)); exact BK183.out) hb); have n2_ := Aside0.mk (below_step (by repeat (first | (with_reducible first | exact HB.out | apply below_alloc | apply pw_below_drewN | apply below_drew1 | refine below_set ?_ GE183.out) | exact HB.out)) hb); clear HO_22; clear BK183; clear HB; have HO_22 := n0_; have BK183 := n1_; have HB := n2_; clear n0_ n1_ n2_; (try clear hb); (try clear hb2); (try clear hk); (try clear hi)))
                    go_ret
                    exact ⟨by first | rfl | (simp [errW_none, errW_some] <;> rfl) | (simp [*, errW_none, errW_some] <;> rfl), by repeat (first | (with_reducible first | exact HB.out | apply below_alloc | apply pw_below_drewN | apply below_drew1 | refine below_set ?_ GE183.out) | exact HB.out)⟩
                ·rw [if_neg c119] at H
                 have c119n_ : ¬ (a0_2 == 3) = !a0_1.toList.isEmpty := by intro h_; exact c119 (by rw [h_]; generalize a0_1.toList = l_; cases l_ <;> rfl)
                 have c119b0 : ((a0_2 == 3) == (a0_1.toList != ([] : List UInt8))) = false := by simpa using c119
                 (try (have c119b1 : decide ((a0_2 == 3) = (a0_1.toList != ([] : List UInt8))) = false := by simpa using c119))
                 (try (have c119b2 : ((a0_2 == 3) == (a0_1.toList != ([] : List UInt8))) = false := by simpa using c119))
                 (try (have c119b3 : ¬ ((a0_2 == 3) = (a0_1.toList != ([] : List UInt8))) := by simpa using c119))
                 clear c119
                 replace H := Option.bind_eq_some_iff.mp H
                 obtain ⟨t216, A1340, H⟩ := H
                 replace H : (some (t216 == 90)) = some r := H
                 have A134 := Aside0.mk A1340
                 clear A1340
                 obtain rfl := Option.some.inj H
                 have hcz135_0 : wr.cell? ⟨gb183, 0, none⟩ = some (.string a0_0) := (blk_cell BK183.out 0).trans rfl
                 have hcz135_1 : wr.cell? ⟨gb183, 1, none⟩ = some (.string a0_1) := (blk_cell BK183.out 1).trans rfl
                 have hcz135_2 : wr.cell? ⟨gb183, 2, none⟩ = some (.int .i64 a0_2) := (blk_cell BK183.out 2).trans rfl
                 have hcz135_3 : wr.cell? ⟨gb183, 3, none⟩ = some (.int .i64 a0_3) := (blk_cell BK183.out 3).trans rfl
                 have hcz135_4 : wr.cell? ⟨gb183, 4, none⟩ = some (.int .i64 a0_4) := (blk_cell BK183.out 4).trans rfl
                 have hcz135_5 : wr.cell? ⟨gb183, 5, none⟩ = some (.int .i64 a0_5) := (blk_cell BK183.out 5).trans rfl
                 have hcz135_6 : wr.cell? ⟨gb183, 6, none⟩ = some (.int .i64 a0_6) := (blk_cell BK183.out 6).trans rfl
                 have hcz135_7 : wr.cell? ⟨gb183, 7, none⟩ = some (.int .i64 a0_7) := (blk_cell BK183.out 7).trans rfl
                 have hcz135_8 : wr.cell? ⟨gb183, 8, none⟩ = some (.string a0_8) := (blk_cell BK183.out 8).trans rfl
                 have hcz135_9 : wr.cell? ⟨gb183, 9, none⟩ = some (.string a0_9) := (blk_cell BK183.out 9).trans rfl
                 go_wp2_with (first | (go_at_call 11; (with_reducible refine (emit_Check.calls k1 a0_0 a0_1 a0_2 a0_3 a0_4 a0_5 a0_6 a0_7 a0_8 a0_9 t216 _ ?side1 A134.out).mono ?_); (case side1 => exact HE_.out.below (by repeat (first | (with_reducible first | exact HB.out | apply below_alloc | apply pw_below_drewN | apply below_drew1 | refine below_set ?_ GE183.out) | exact HB.out))); rintro e w136 ⟨rfl, hb⟩; have n0_ := Aside0.mk (Kd.R_below (by (with_reducible repeat (first | apply Kd.R_alloc | apply Kd.R_drewN | apply Kd.R_drew)); exact HO_22.out) hb); have n1_ := Aside0.mk (blk_below (g := gb183) (o := .cells #[.string a0_0, .string a0_1, .int .i64 a0_2, .int .i64 a0_3, .int .i64 a0_4, .int .i64 a0_5, .int .i64 a0_6, .int .i64 a0_7, .string a0_8, .string a0_9] 23 (0, 0)) (by (with_reducible repeat (first | refine blk_drewN ?_ _ | refine blk_drew ?_ | refine blk_alloc ?_ _)); exact BK183.out) hb); have n2_ := Aside0.mk (below_step (by repeat (first | (with_reducible first | exact HB.out | apply below_alloc | apply pw_below_drewN | apply below_drew1 | refine below_set ?_ GE183.out) | exact HB.out)) hb); clear HO_22; clear BK183; clear HB; have HO_22 := n0_; have BK183 := n1_; have HB := n2_; clear n0_ n1_ n2_; (try clear hb); (try clear hb2); (try clear hk); (try clear hi)))
                 go_ret
                 exact ⟨by first | rfl | (simp [errW_none, errW_some] <;> rfl) | (simp [*, errW_none, errW_some] <;> rfl), by repeat (first | (with_reducible first | exact HB.out | apply below_alloc | apply pw_below_drewN | apply below_drew1 | refine below_set ?_ GE183.out) | exact HB.out)⟩
               ·rw [if_neg c118] at H
                have c118b0 : (a0_7 == 0) = false := beq_eq_false_iff_ne.mpr c118
                have c118b1 : (a0_7 != 0) = true := bne_iff_ne.mpr c118
                replace H := Option.bind_eq_some_iff.mp H
                obtain ⟨t217, A1370, H⟩ := H
                replace H : (some (t217 == 90)) = some r := H
                have A137 := Aside0.mk A1370
                clear A1370
                obtain rfl := Option.some.inj H
                have hcz138_0 : wr.cell? ⟨gb183, 0, none⟩ = some (.string a0_0) := (blk_cell BK183.out 0).trans rfl
                have hcz138_1 : wr.cell? ⟨gb183, 1, none⟩ = some (.string a0_1) := (blk_cell BK183.out 1).trans rfl
                have hcz138_2 : wr.cell? ⟨gb183, 2, none⟩ = some (.int .i64 a0_2) := (blk_cell BK183.out 2).trans rfl
                have hcz138_3 : wr.cell? ⟨gb183, 3, none⟩ = some (.int .i64 a0_3) := (blk_cell BK183.out 3).trans rfl
                have hcz138_4 : wr.cell? ⟨gb183, 4, none⟩ = some (.int .i64 a0_4) := (blk_cell BK183.out 4).trans rfl
                have hcz138_5 : wr.cell? ⟨gb183, 5, none⟩ = some (.int .i64 a0_5) := (blk_cell BK183.out 5).trans rfl
                have hcz138_6 : wr.cell? ⟨gb183, 6, none⟩ = some (.int .i64 a0_6) := (blk_cell BK183.out 6).trans rfl
                have hcz138_7 : wr.cell? ⟨gb183, 7, none⟩ = some (.int .i64 a0_7) := (blk_cell BK183.out 7).trans rfl
                have hcz138_8 : wr.cell? ⟨gb183, 8, none⟩ = some (.string a0_8) := (blk_cell BK183.out 8).trans rfl
                have hcz138_9 : wr.cell? ⟨gb183, 9, none⟩ = some (.string a0_9) := (blk_cell BK183.out 9).trans rfl
                go_wp2_with (first | (go_at_call 11; (with_reducible refine (emit_Check.calls k1 a0_0 a0_1 a0_2 a0_3 a0_4 a0_5 a0_6 a0_7 a0_8 a0_9 t217 _ ?side1 A137.out).mono ?_); (case side1 => exact HE_.out.below (by repeat (first | (with_reducible first | exact HB.out | apply below_alloc | apply pw_below_drewN | apply below_drew1 | refine below_set ?_ GE183.out) | exact HB.out))); rintro e w139 ⟨rfl, hb⟩; have n0_ := Aside0.mk (Kd.R_below (by (with_reducible repeat (first | apply Kd.R_alloc | apply Kd.R_drewN | apply Kd.R_drew)); exact HO_22.out) hb); have n1_ := Aside0.mk (blk_below (g := gb183) (o := .cells #[.string a0_0, .string a0_1, .int .i64 a0_2, .int .i64 a0_3, .int .i64 a0_4, .int .i64 a0_5, .int .i64 a0_6, .int .i64 a0_7, .string a0_8, .string a0_9] 23 (0, 0)) (by (with_reducible repeat (first | refine blk_drewN ?_ _ | refine blk_drew ?_ | refine blk_alloc ?_ _)); exact BK183.out) hb); have n2_ := Aside0.mk (below_step (by repeat (first | (with_reducible first | exact HB.out | apply below_alloc | apply pw_below_drewN | apply below_drew1 | refine below_set ?_ GE183.out) | exact HB.out)) hb); clear HO_22; clear BK183; clear HB; have HO_22 := n0_; have BK183 := n1_; have HB := n2_; clear n0_ n1_ n2_; (try clear hb); (try clear hb2); (try clear hk); (try clear hi)))
                go_ret
                exact ⟨by first | rfl | (simp [errW_none, errW_some] <;> rfl) | (simp [*, errW_none, errW_some] <;> rfl), by repeat (first | (with_reducible first | exact HB.out | apply below_alloc | apply pw_below_drewN | apply below_drew1 | refine below_set ?_ GE183.out) | exact HB.out)⟩
             ·rw [if_neg c98] at H
              have c98b0 : decide (0 ≤ a0_7) = false := decide_eq_false c98
              clear c98
              replace H := Option.bind_eq_some_iff.mp H
              obtain ⟨t218, A1400, H⟩ := H
              replace H : (some (t218 == 90)) = some r := H
              have A140 := Aside0.mk A1400
              clear A1400
              obtain rfl := Option.some.inj H
              have hcz141_0 : wr.cell? ⟨gb183, 0, none⟩ = some (.string a0_0) := (blk_cell BK183.out 0).trans rfl
              have hcz141_1 : wr.cell? ⟨gb183, 1, none⟩ = some (.string a0_1) := (blk_cell BK183.out 1).trans rfl
              have hcz141_2 : wr.cell? ⟨gb183, 2, none⟩ = some (.int .i64 a0_2) := (blk_cell BK183.out 2).trans rfl
              have hcz141_3 : wr.cell? ⟨gb183, 3, none⟩ = some (.int .i64 a0_3) := (blk_cell BK183.out 3).trans rfl
              have hcz141_4 : wr.cell? ⟨gb183, 4, none⟩ = some (.int .i64 a0_4) := (blk_cell BK183.out 4).trans rfl
              have hcz141_5 : wr.cell? ⟨gb183, 5, none⟩ = some (.int .i64 a0_5) := (blk_cell BK183.out 5).trans rfl
              have hcz141_6 : wr.cell? ⟨gb183, 6, none⟩ = some (.int .i64 a0_6) := (blk_cell BK183.out 6).trans rfl
              have hcz141_7 : wr.cell? ⟨gb183, 7, none⟩ = some (.int .i64 a0_7) := (blk_cell BK183.out 7).trans rfl
              have hcz141_8 : wr.cell? ⟨gb183, 8, none⟩ = some (.string a0_8) := (blk_cell BK183.out 8).trans rfl
              have hcz141_9 : wr.cell? ⟨gb183, 9, none⟩ = some (.string a0_9) := (blk_cell BK183.out 9).trans rfl
              go_wp2_with (first | (go_at_call 11; (with_reducible refine (emit_Check.calls k1 a0_0 a0_1 a0_2 a0_3 a0_4 a0_5 a0_6 a0_7 a0_8 a0_9 t218 _ ?side1 A140.out).mono ?_); (case side1 => exact HE_.out.below (by repeat (first | (with_reducible first | exact HB.out | apply below_alloc | apply pw_below_drewN | apply below_drew1 | refine below_set ?_ GE183.out) | exact HB.out))); rintro e w142 ⟨rfl, hb⟩; have n0_ := Aside0.mk (Kd.R_below (by (with_reducible repeat (first | apply Kd.R_alloc | apply Kd.R_drewN | apply Kd.R_drew)); exact HO_22.out) hb); have n1_ := Aside0.mk (blk_below (g := gb183) (o := .cells #[.string a0_0, .string a0_1, .int .i64 a0_2, .int .i64 a0_3, .int .i64 a0_4, .int .i64 a0_5, .int .i64 a0_6, .int .i64 a0_7, .string a0_8, .string a0_9] 23 (0, 0)) (by (with_reducible repeat (first | refine blk_drewN ?_ _ | refine blk_drew ?_ | refine blk_alloc ?_ _)); exact BK183.out) hb); have n2_ := Aside0.mk (below_step (by repeat (first | (with_reducible first | exact HB.out | apply below_alloc | apply pw_below_drewN | apply below_drew1 | refine below_set ?_ GE183.out) | exact HB.out)) hb); clear HO_22; clear BK183; clear HB; have HO_22 := n0_; have BK183 := n1_; have HB := n2_; clear n0_ n1_ n2_; (try clear hb); (try clear hb2); (try clear hk); (try clear hi)))
              go_ret
              exact ⟨by first | rfl | (simp [errW_none, errW_some] <;> rfl) | (simp [*, errW_none, errW_some] <;> rfl), by repeat (first | (with_reducible first | exact HB.out | apply below_alloc | apply pw_below_drewN | apply below_drew1 | refine below_set ?_ GE183.out) | exact HB.out)⟩
            ·rw [if_neg c97] at H
             have c97b0 : decide (0 ≤ a0_5) = false := decide_eq_false c97
             clear c97
             replace H := Option.bind_eq_some_iff.mp H
             obtain ⟨t219, A1430, H⟩ := H
             replace H : (some (t219 == 90)) = some r := H
             have A143 := Aside0.mk A1430
             clear A1430
             obtain rfl := Option.some.inj H
             have hcz144_0 : wr.cell? ⟨gb183, 0, none⟩ = some (.string a0_0) := (blk_cell BK183.out 0).trans rfl
             have hcz144_1 : wr.cell? ⟨gb183, 1, none⟩ = some (.string a0_1) := (blk_cell BK183.out 1).trans rfl
             have hcz144_2 : wr.cell? ⟨gb183, 2, none⟩ = some (.int .i64 a0_2) := (blk_cell BK183.out 2).trans rfl
             have hcz144_3 : wr.cell? ⟨gb183, 3, none⟩ = some (.int .i64 a0_3) := (blk_cell BK183.out 3).trans rfl
             have hcz144_4 : wr.cell? ⟨gb183, 4, none⟩ = some (.int .i64 a0_4) := (blk_cell BK183.out 4).trans rfl
             have hcz144_5 : wr.cell? ⟨gb183, 5, none⟩ = some (.int .i64 a0_5) := (blk_cell BK183.out 5).trans rfl
             have hcz144_6 : wr.cell? ⟨gb183, 6, none⟩ = some (.int .i64 a0_6) := (blk_cell BK183.out 6).trans rfl
             have hcz144_7 : wr.cell? ⟨gb183, 7, none⟩ = some (.int .i64 a0_7) := (blk_cell BK183.out 7).trans rfl
             have hcz144_8 : wr.cell? ⟨gb183, 8, none⟩ = some (.string a0_8) := (blk_cell BK183.out 8).trans rfl
             have hcz144_9 : wr.cell? ⟨gb183, 9, none⟩ = some (.string a0_9) := (blk_cell BK183.out 9).trans rfl
             go_wp2_with (first | (go_at_call 11; (with_reducible refine (emit_Check.calls k1 a0_0 a0_1 a0_2 a0_3 a0_4 a0_5 a0_6 a0_7 a0_8 a0_9 t219 _ ?side1 A143.out).mono ?_); (case side1 => exact HE_.out.below (by repeat (first | (with_reducible first | exact HB.out | apply below_alloc | apply pw_below_drewN | apply below_drew1 | refine below_set ?_ GE183.out) | exact HB.out))); rintro e w145 ⟨rfl, hb⟩; have n0_ := Aside0.mk (Kd.R_below (by (with_reducible repeat (first | apply Kd.R_alloc | apply Kd.R_drewN | apply Kd.R_drew)); exact HO_22.out) hb); have n1_ := Aside0.mk (blk_below (g := gb183) (o := .cells #[.string a0_0, .string a0_1, .int .i64 a0_2, .int .i64 a0_3, .int .i64 a0_4, .int .i64 a0_5, .int .i64 a0_6, .int .i64 a0_7, .string a0_8, .string a0_9] 23 (0, 0)) (by (with_reducible repeat (first | refine blk_drewN ?_ _ | refine blk_drew ?_ | refine blk_alloc ?_ _)); exact BK183.out) hb); have n2_ := Aside0.mk (below_step (by repeat (first | (with_reducible first | exact HB.out | apply below_alloc | apply pw_below_drewN | apply below_drew1 | refine below_set ?_ GE183.out) | exact HB.out)) hb); clear HO_22; clear BK183; clear HB; have HO_22 := n0_; have BK183 := n1_; have HB := n2_; clear n0_ n1_ n2_; (try clear hb); (try clear hb2); (try clear hk); (try clear hi)))
             go_ret
             exact ⟨by first | rfl | (simp [errW_none, errW_some] <;> rfl) | (simp [*, errW_none, errW_some] <;> rfl), by repeat (first | (with_reducible first | exact HB.out | apply below_alloc | apply pw_below_drewN | apply below_drew1 | refine below_set ?_ GE183.out) | exact HB.out)⟩
           ·rw [if_neg c96] at H
            have c96b0 : decide (0 ≤ a0_4) = false := decide_eq_false c96
            clear c96
            replace H := Option.bind_eq_some_iff.mp H
            obtain ⟨t220, A1460, H⟩ := H
            replace H : (some (t220 == 90)) = some r := H
            have A146 := Aside0.mk A1460
            clear A1460
            obtain rfl := Option.some.inj H
            have hcz147_0 : wr.cell? ⟨gb183, 0, none⟩ = some (.string a0_0) := (blk_cell BK183.out 0).trans rfl
            have hcz147_1 : wr.cell? ⟨gb183, 1, none⟩ = some (.string a0_1) := (blk_cell BK183.out 1).trans rfl
            have hcz147_2 : wr.cell? ⟨gb183, 2, none⟩ = some (.int .i64 a0_2) := (blk_cell BK183.out 2).trans rfl
            have hcz147_3 : wr.cell? ⟨gb183, 3, none⟩ = some (.int .i64 a0_3) := (blk_cell BK183.out 3).trans rfl
            have hcz147_4 : wr.cell? ⟨gb183, 4, none⟩ = some (.int .i64 a0_4) := (blk_cell BK183.out 4).trans rfl
            have hcz147_5 : wr.cell? ⟨gb183, 5, none⟩ = some (.int .i64 a0_5) := (blk_cell BK183.out 5).trans rfl
            have hcz147_6 : wr.cell? ⟨gb183, 6, none⟩ = some (.int .i64 a0_6) := (blk_cell BK183.out 6).trans rfl
            have hcz147_7 : wr.cell? ⟨gb183, 7, none⟩ = some (.int .i64 a0_7) := (blk_cell BK183.out 7).trans rfl
            have hcz147_8 : wr.cell? ⟨gb183, 8, none⟩ = some (.string a0_8) := (blk_cell BK183.out 8).trans rfl
            have hcz147_9 : wr.cell? ⟨gb183, 9, none⟩ = some (.string a0_9) := (blk_cell BK183.out 9).trans rfl
            go_wp2_with (first | (go_at_call 11; (with_reducible refine (emit_Check.calls k1 a0_0 a0_1 a0_2 a0_3 a0_4 a0_5 a0_6 a0_7 a0_8 a0_9 t220 _ ?side1 A146.out).mono ?_); (case side1 => exact HE_.out.below (by repeat (first | (with_reducible first | exact HB.out | apply below_alloc | apply pw_below_drewN | apply below_drew1 | refine below_set ?_ GE183.out) | exact HB.out))); rintro e w148 ⟨rfl, hb⟩; have n0_ := Aside0.mk (Kd.R_below (by (with_reducible repeat (first | apply Kd.R_alloc | apply Kd.R_drewN | apply Kd.R_drew)); exact HO_22.out) hb); have n1_ := Aside0.mk (blk_below (g := gb183) (o := .cells #[.string a0_0, .string a0_1, .int .i64 a0_2, .int .i64 a0_3, .int .i64 a0_4, .int .i64 a0_5, .int .i64 a0_6, .int .i64 a0_7, .string a0_8, .string a0_9] 23 (0, 0)) (by (with_reducible repeat (first | refine blk_drewN ?_ _ | refine blk_drew ?_ | refine blk_alloc ?_ _)); exact BK183.out) hb); have n2_ := Aside0.mk (below_step (by repeat (first | (with_reducible first | exact HB.out | apply below_alloc | apply pw_below_drewN | apply below_drew1 | refine below_set ?_ GE183.out) | exact HB.out)) hb); clear HO_22; clear BK183; clear HB; have HO_22 := n0_; have BK183 := n1_; have HB := n2_; clear n0_ n1_ n2_; (try clear hb); (try clear hb2); (try clear hk); (try clear hi)))
            go_ret
            exact ⟨by first | rfl | (simp [errW_none, errW_some] <;> rfl) | (simp [*, errW_none, errW_some] <;> rfl), by repeat (first | (with_reducible first | exact HB.out | apply below_alloc | apply pw_below_drewN | apply below_drew1 | refine below_set ?_ GE183.out) | exact HB.out)⟩
          ·rw [if_neg c95] at H
           have c95b0 : decide (a0_3 ≤ 4095) = false := decide_eq_false c95
           clear c95
           replace H := Option.bind_eq_some_iff.mp H
           obtain ⟨t221, A1490, H⟩ := H
           replace H : (some (t221 == 90)) = some r := H
           have A149 := Aside0.mk A1490
           clear A1490
           obtain rfl := Option.some.inj H
           have hcz150_0 : wr.cell? ⟨gb183, 0, none⟩ = some (.string a0_0) := (blk_cell BK183.out 0).trans rfl
           have hcz150_1 : wr.cell? ⟨gb183, 1, none⟩ = some (.string a0_1) := (blk_cell BK183.out 1).trans rfl
           have hcz150_2 : wr.cell? ⟨gb183, 2, none⟩ = some (.int .i64 a0_2) := (blk_cell BK183.out 2).trans rfl
           have hcz150_3 : wr.cell? ⟨gb183, 3, none⟩ = some (.int .i64 a0_3) := (blk_cell BK183.out 3).trans rfl
           have hcz150_4 : wr.cell? ⟨gb183, 4, none⟩ = some (.int .i64 a0_4) := (blk_cell BK183.out 4).trans rfl
           have hcz150_5 : wr.cell? ⟨gb183, 5, none⟩ = some (.int .i64 a0_5) := (blk_cell BK183.out 5).trans rfl
           have hcz150_6 : wr.cell? ⟨gb183, 6, none⟩ = some (.int .i64 a0_6) := (blk_cell BK183.out 6).trans rfl
           have hcz150_7 : wr.cell? ⟨gb183, 7, none⟩ = some (.int .i64 a0_7) := (blk_cell BK183.out 7).trans rfl
           have hcz150_8 : wr.cell? ⟨gb183, 8, none⟩ = some (.string a0_8) := (blk_cell BK183.out 8).trans rfl
           have hcz150_9 : wr.cell? ⟨gb183, 9, none⟩ = some (.string a0_9) := (blk_cell BK183.out 9).trans rfl
           go_wp2_with (first | (go_at_call 11; (with_reducible refine (emit_Check.calls k1 a0_0 a0_1 a0_2 a0_3 a0_4 a0_5 a0_6 a0_7 a0_8 a0_9 t221 _ ?side1 A149.out).mono ?_); (case side1 => exact HE_.out.below (by repeat (first | (with_reducible first | exact HB.out | apply below_alloc | apply pw_below_drewN | apply below_drew1 | refine below_set ?_ GE183.out) | exact HB.out))); rintro e w151 ⟨rfl, hb⟩; have n0_ := Aside0.mk (Kd.R_below (by (with_reducible repeat (first | apply Kd.R_alloc | apply Kd.R_drewN | apply Kd.R_drew)); exact HO_22.out) hb); have n1_ := Aside0.mk (blk_below (g := gb183) (o := .cells #[.string a0_0, .string a0_1, .int .i64 a0_2, .int .i64 a0_3, .int .i64 a0_4, .int .i64 a0_5, .int .i64 a0_6, .int .i64 a0_7, .string a0_8, .string a0_9] 23 (0, 0)) (by (with_reducible repeat (first | refine blk_drewN ?_ _ | refine blk_drew ?_ | refine blk_alloc ?_ _)); exact BK183.out) hb); have n2_ := Aside0.mk (below_step (by repeat (first | (with_reducible first | exact HB.out | apply below_alloc | apply pw_below_drewN | apply below_drew1 | refine below_set ?_ GE183.out) | exact HB.out)) hb); clear HO_22; clear BK183; clear HB; have HO_22 := n0_; have BK183 := n1_; have HB := n2_; clear n0_ n1_ n2_; (try clear hb); (try clear hb2); (try clear hk); (try clear hi)))
           go_ret
           exact ⟨by first | rfl | (simp [errW_none, errW_some] <;> rfl) | (simp [*, errW_none, errW_some] <;> rfl), by repeat (first | (with_reducible first | exact HB.out | apply below_alloc | apply pw_below_drewN | apply below_drew1 | refine below_set ?_ GE183.out) | exact HB.out)⟩
         ·rw [if_neg c94] at H
          have c94b0 : decide (0 ≤ a0_3) = false := decide_eq_false c94
          clear c94
          replace H := Option.bind_eq_some_iff.mp H
          obtain ⟨t222, A1520, H⟩ := H
          replace H : (some (t222 == 90)) = some r := H
          have A152 := Aside0.mk A1520
          clear A1520
          obtain rfl := Option.some.inj H
          have hcz153_0 : wr.cell? ⟨gb183, 0, none⟩ = some (.string a0_0) := (blk_cell BK183.out 0).trans rfl
          have hcz153_1 : wr.cell? ⟨gb183, 1, none⟩ = some (.string a0_1) := (blk_cell BK183.out 1).trans rfl
          have hcz153_2 : wr.cell? ⟨gb183, 2, none⟩ = some (.int .i64 a0_2) := (blk_cell BK183.out 2).trans rfl
          have hcz153_3 : wr.cell? ⟨gb183, 3, none⟩ = some (.int .i64 a0_3) := (blk_cell BK183.out 3).trans rfl
          have hcz153_4 : wr.cell? ⟨gb183, 4, none⟩ = some (.int .i64 a0_4) := (blk_cell BK183.out 4).trans rfl
          have hcz153_5 : wr.cell? ⟨gb183, 5, none⟩ = some (.int .i64 a0_5) := (blk_cell BK183.out 5).trans rfl
          have hcz153_6 : wr.cell? ⟨gb183, 6, none⟩ = some (.int .i64 a0_6) := (blk_cell BK183.out 6).trans rfl
          have hcz153_7 : wr.cell? ⟨gb183, 7, none⟩ = some (.int .i64 a0_7) := (blk_cell BK183.out 7).trans rfl
          have hcz153_8 : wr.cell? ⟨gb183, 8, none⟩ = some (.string a0_8) := (blk_cell BK183.out 8).trans rfl
          have hcz153_9 : wr.cell? ⟨gb183, 9, none⟩ = some (.string a0_9) := (blk_cell BK183.out 9).trans rfl
          go_wp2_with (first | (go_at_call 11; (with_reducible refine (emit_Check.calls k1 a0_0 a0_1 a0_2 a0_3 a0_4 a0_5 a0_6 a0_7 a0_8 a0_9 t222 _ ?side1 A152.out).mono ?_); (case side1 => exact HE_.out.below (by repeat (first | (with_reducible first | exact HB.out | apply below_alloc | apply pw_below_drewN | apply below_drew1 | refine below_set ?_ GE183.out) | exact HB.out))); rintro e w154 ⟨rfl, hb⟩; have n0_ := Aside0.mk (Kd.R_below (by (with_reducible repeat (first | apply Kd.R_alloc | apply Kd.R_drewN | apply Kd.R_drew)); exact HO_22.out) hb); have n1_ := Aside0.mk (blk_below (g := gb183) (o := .cells #[.string a0_0, .string a0_1, .int .i64 a0_2, .int .i64 a0_3, .int .i64 a0_4, .int .i64 a0_5, .int .i64 a0_6, .int .i64 a0_7, .string a0_8, .string a0_9] 23 (0, 0)) (by (with_reducible repeat (first | refine blk_drewN ?_ _ | refine blk_drew ?_ | refine blk_alloc ?_ _)); exact BK183.out) hb); have n2_ := Aside0.mk (below_step (by repeat (first | (with_reducible first | exact HB.out | apply below_alloc | apply pw_below_drewN | apply below_drew1 | refine below_set ?_ GE183.out) | exact HB.out)) hb); clear HO_22; clear BK183; clear HB; have HO_22 := n0_; have BK183 := n1_; have HB := n2_; clear n0_ n1_ n2_; (try clear hb); (try clear hb2); (try clear hk); (try clear hi)))
          go_ret
          exact ⟨by first | rfl | (simp [errW_none, errW_some] <;> rfl) | (simp [*, errW_none, errW_some] <;> rfl), by repeat (first | (with_reducible first | exact HB.out | apply below_alloc | apply pw_below_drewN | apply below_drew1 | refine below_set ?_ GE183.out) | exact HB.out)⟩
        ·rw [if_neg c93] at H
         have c93b0 : decide (a0_2 ≤ 4) = false := decide_eq_false c93
         clear c93
         replace H := Option.bind_eq_some_iff.mp H
         obtain ⟨t223, A1550, H⟩ := H
         replace H : (some (t223 == 90)) = some r := H
         have A155 := Aside0.mk A1550
         clear A1550
         obtain rfl := Option.some.inj H
         have hcz156_0 : wr.cell? ⟨gb183, 0, none⟩ = some (.string a0_0) := (blk_cell BK183.out 0).trans rfl
         have hcz156_1 : wr.cell? ⟨gb183, 1, none⟩ = some (.string a0_1) := (blk_cell BK183.out 1).trans rfl
         have hcz156_2 : wr.cell? ⟨gb183, 2, none⟩ = some (.int .i64 a0_2) := (blk_cell BK183.out 2).trans rfl
         have hcz156_3 : wr.cell? ⟨gb183, 3, none⟩ = some (.int .i64 a0_3) := (blk_cell BK183.out 3).trans rfl
         have hcz156_4 : wr.cell? ⟨gb183, 4, none⟩ = some (.int .i64 a0_4) := (blk_cell BK183.out 4).trans rfl
         have hcz156_5 : wr.cell? ⟨gb183, 5, none⟩ = some (.int .i64 a0_5) := (blk_cell BK183.out 5).trans rfl
         have hcz156_6 : wr.cell? ⟨gb183, 6, none⟩ = some (.int .i64 a0_6) := (blk_cell BK183.out 6).trans rfl
         have hcz156_7 : wr.cell? ⟨gb183, 7, none⟩ = some (.int .i64 a0_7) := (blk_cell BK183.out 7).trans rfl
         have hcz156_8 : wr.cell? ⟨gb183, 8, none⟩ = some (.string a0_8) := (blk_cell BK183.out 8).trans rfl
         have hcz156_9 : wr.cell? ⟨gb183, 9, none⟩ = some (.string a0_9) := (blk_cell BK183.out 9).trans rfl
         go_wp2_with (first | (go_at_call 11; (with_reducible refine (emit_Check.calls k1 a0_0 a0_1 a0_2 a0_3 a0_4 a0_5 a0_6 a0_7 a0_8 a0_9 t223 _ ?side1 A155.out).mono ?_); (case side1 => exact HE_.out.below (by repeat (first | (with_reducible first | exact HB.out | apply below_alloc | apply pw_below_drewN | apply below_drew1 | refine below_set ?_ GE183.out) | exact HB.out))); rintro e w157 ⟨rfl, hb⟩; have n0_ := Aside0.mk (Kd.R_below (by (with_reducible repeat (first | apply Kd.R_alloc | apply Kd.R_drewN | apply Kd.R_drew)); exact HO_22.out) hb); have n1_ := Aside0.mk (blk_below (g := gb183) (o := .cells #[.string a0_0, .string a0_1, .int .i64 a0_2, .int .i64 a0_3, .int .i64 a0_4, .int .i64 a0_5, .int .i64 a0_6, .int .i64 a0_7, .string a0_8, .string a0_9] 23 (0, 0)) (by (with_reducible repeat (first | refine blk_drewN ?_ _ | refine blk_drew ?_ | refine blk_alloc ?_ _)); exact BK183.out) hb); have n2_ := Aside0.mk (below_step (by repeat (first | (with_reducible first | exact HB.out | apply below_alloc | apply pw_below_drewN | apply below_drew1 | refine below_set ?_ GE183.out) | exact HB.out)) hb); clear HO_22; clear BK183; clear HB; have HO_22 := n0_; have BK183 := n1_; have HB := n2_; clear n0_ n1_ n2_; (try clear hb); (try clear hb2); (try clear hk); (try clear hi)))
         go_ret
         exact ⟨by first | rfl | (simp [errW_none, errW_some] <;> rfl) | (simp [*, errW_none, errW_some] <;> rfl), by repeat (first | (with_reducible first | exact HB.out | apply below_alloc | apply pw_below_drewN | apply below_drew1 | refine below_set ?_ GE183.out) | exact HB.out)⟩
       ·rw [if_neg c92] at H
        have c92b0 : decide (1 ≤ a0_2) = false := decide_eq_false c92
        clear c92
        replace H := Option.bind_eq_some_iff.mp H
        obtain ⟨t224, A1580, H⟩ := H
        replace H : (some (t224 == 90)) = some r := H
        have A158 := Aside0.mk A1580
        clear A1580
        obtain rfl := Option.some.inj H
        have hcz159_0 : wr.cell? ⟨gb183, 0, none⟩ = some (.string a0_0) := (blk_cell BK183.out 0).trans rfl
        have hcz159_1 : wr.cell? ⟨gb183, 1, none⟩ = some (.string a0_1) := (blk_cell BK183.out 1).trans rfl
        have hcz159_2 : wr.cell? ⟨gb183, 2, none⟩ = some (.int .i64 a0_2) := (blk_cell BK183.out 2).trans rfl
        have hcz159_3 : wr.cell? ⟨gb183, 3, none⟩ = some (.int .i64 a0_3) := (blk_cell BK183.out 3).trans rfl
        have hcz159_4 : wr.cell? ⟨gb183, 4, none⟩ = some (.int .i64 a0_4) := (blk_cell BK183.out 4).trans rfl
        have hcz159_5 : wr.cell? ⟨gb183, 5, none⟩ = some (.int .i64 a0_5) := (blk_cell BK183.out 5).trans rfl
        have hcz159_6 : wr.cell? ⟨gb183, 6, none⟩ = some (.int .i64 a0_6) := (blk_cell BK183.out 6).trans rfl
        have hcz159_7 : wr.cell? ⟨gb183, 7, none⟩ = some (.int .i64 a0_7) := (blk_cell BK183.out 7).trans rfl
        have hcz159_8 : wr.cell? ⟨gb183, 8, none⟩ = some (.string a0_8) := (blk_cell BK183.out 8).trans rfl
        have hcz159_9 : wr.cell? ⟨gb183, 9, none⟩ = some (.string a0_9) := (blk_cell BK183.out 9).trans rfl
        go_wp2_with (first | (go_at_call 11; (with_reducible refine (emit_Check.calls k1 a0_0 a0_1 a0_2 a0_3 a0_4 a0_5 a0_6 a0_7 a0_8 a0_9 t224 _ ?side1 A158.out).mono ?_); (case side1 => exact HE_.out.below (by repeat (first | (with_reducible first | exact HB.out | apply below_alloc | apply pw_below_drewN | apply below_drew1 | refine below_set ?_ GE183.out) | exact HB.out))); rintro e w160 ⟨rfl, hb⟩; have n0_ := Aside0.mk (Kd.R_below (by (with_reducible repeat (first | apply Kd.R_alloc | apply Kd.R_drewN | apply Kd.R_drew)); exact HO_22.out) hb); have n1_ := Aside0.mk (blk_below (g := gb183) (o := .cells #[.string a0_0, .string a0_1, .int .i64 a0_2, .int .i64 a0_3, .int .i64 a0_4, .int .i64 a0_5, .int .i64 a0_6, .int .i64 a0_7, .string a0_8, .string a0_9] 23 (0, 0)) (by (with_reducible repeat (first | refine blk_drewN ?_ _ | refine blk_drew ?_ | refine blk_alloc ?_ _)); exact BK183.out) hb); have n2_ := Aside0.mk (below_step (by repeat (first | (with_reducible first | exact HB.out | apply below_alloc | apply pw_below_drewN | apply below_drew1 | refine below_set ?_ GE183.out) | exact HB.out)) hb); clear HO_22; clear BK183; clear HB; have HO_22 := n0_; have BK183 := n1_; have HB := n2_; clear n0_ n1_ n2_; (try clear hb); (try clear hb2); (try clear hk); (try clear hi)))
        go_ret
        exact ⟨by first | rfl | (simp [errW_none, errW_some] <;> rfl) | (simp [*, errW_none, errW_some] <;> rfl), by repeat (first | (with_reducible first | exact HB.out | apply below_alloc | apply pw_below_drewN | apply below_drew1 | refine below_set ?_ GE183.out) | exact HB.out)⟩
  ·replace c5 := Bool.eq_false_iff.mpr c5
   subst c5
   have H1 : (some true) = some r := by rw [if_neg (show ¬ (false = true) by decide)] at H; exact H
   clear H
   have H := H1
   clear H1
   obtain rfl := Option.some.inj H
   go_enter Tryd.func5, Tryd.ntmps5
   go_wp2_with (first | ((with_reducible refine gate_dst (N := 1) rfl ?_); refine box_event ?hg (N := 1) ?hd (cs := #[.string a0_0, .string a0_1, .int .i64 a0_2, .int .i64 a0_3, .int .i64 a0_4, .int .i64 a0_5, .int .i64 a0_6, .int .i64 a0_7, .string a0_8, .string a0_9]) (t := 23) ?hr ?_; (case hd => rfl); (case hg => rfl); (case hr => first | (go_simp; done) | (go_simp; rfl)); intro gb183 hg w161 hbox hb; have n0_ := Aside0.mk (below_step (by repeat (first | (with_reducible first | exact HB.out | apply below_alloc | apply pw_below_drewN | apply below_drew1) | exact HB.out)) hb); have n1_ := Aside0.mk (hbox); have n2_ := Aside0.mk ((by rw [hg]; exact (below_size (by repeat (first | (with_reducible first | exact HB.out | apply below_alloc | apply pw_below_drewN | apply below_drew1) | exact HB.out))) : w.heap.size ≤ gb183)); have n3_ := Aside0.mk ((by rw [hg]; exact (below_size (by repeat (first | (with_reducible first | exact HB.out | apply below_alloc | apply pw_below_drewN | apply below_drew1) | exact HB.out))) : w.heap.size ≤ gb183)); clear HB; have HB := n0_; have BK183 := n1_; have GW183 := n2_; have GE183 := n3_; clear n0_ n1_ n2_ n3_; clear hb hbox hg) | ((with_reducible refine gate_callee (f := 6) rfl ?_); refine goesL_ (some 9) rfl rfl Tryd.func6 (by kernel_rfl) rfl #[] rfl (by (try simp only [List.map_toArray, List.map_cons, List.map_nil]); first | done | rfl | (simp only [List.length_drop, List.length_take]; rfl)) ?_; (with_reducible refine (pannierlaw18_writes.calls k  true _ ?side1 A2.out).mono ?_); (case side1 => exact HE_.out.below (by repeat (first | (with_reducible first | exact HB.out | apply below_alloc | apply pw_below_drewN | apply below_drew1 | refine below_set ?_ GE183.out) | exact HB.out))); rintro e w162 ⟨rfl, hb⟩; refine ⟨_, rfl, ?_⟩; have n0_ := Aside0.mk (blk_below (g := gb183) (o := .cells #[.string a0_0, .string a0_1, .int .i64 a0_2, .int .i64 a0_3, .int .i64 a0_4, .int .i64 a0_5, .int .i64 a0_6, .int .i64 a0_7, .string a0_8, .string a0_9] 23 (0, 0)) (by (with_reducible repeat (first | refine blk_drewN ?_ _ | refine blk_drew ?_ | refine blk_alloc ?_ _)); exact BK183.out) hb); have n1_ := Aside0.mk (below_step (by repeat (first | (with_reducible first | exact HB.out | apply below_alloc | apply pw_below_drewN | apply below_drew1 | refine below_set ?_ GE183.out) | exact HB.out)) hb); clear BK183; clear HB; have BK183 := n0_; have HB := n1_; clear n0_ n1_; (try clear hb); (try clear hb2); (try clear hk); (try clear hi); have hcz163_0 : w162.cell? ⟨gb183, 0, none⟩ = some (.string a0_0) := (blk_cell BK183.out 0).trans rfl; have hcz163_1 : w162.cell? ⟨gb183, 1, none⟩ = some (.string a0_1) := (blk_cell BK183.out 1).trans rfl; have hcz163_2 : w162.cell? ⟨gb183, 2, none⟩ = some (.int .i64 a0_2) := (blk_cell BK183.out 2).trans rfl; have hcz163_3 : w162.cell? ⟨gb183, 3, none⟩ = some (.int .i64 a0_3) := (blk_cell BK183.out 3).trans rfl; have hcz163_4 : w162.cell? ⟨gb183, 4, none⟩ = some (.int .i64 a0_4) := (blk_cell BK183.out 4).trans rfl; have hcz163_5 : w162.cell? ⟨gb183, 5, none⟩ = some (.int .i64 a0_5) := (blk_cell BK183.out 5).trans rfl; have hcz163_6 : w162.cell? ⟨gb183, 6, none⟩ = some (.int .i64 a0_6) := (blk_cell BK183.out 6).trans rfl; have hcz163_7 : w162.cell? ⟨gb183, 7, none⟩ = some (.int .i64 a0_7) := (blk_cell BK183.out 7).trans rfl; have hcz163_8 : w162.cell? ⟨gb183, 8, none⟩ = some (.string a0_8) := (blk_cell BK183.out 8).trans rfl; have hcz163_9 : w162.cell? ⟨gb183, 9, none⟩ = some (.string a0_9) := (blk_cell BK183.out 9).trans rfl; have hfz163_0 := blk_frozen BK183.out 0; have hfz163_1 := blk_frozen BK183.out 1; have hfz163_2 := blk_frozen BK183.out 2; have hfz163_3 := blk_frozen BK183.out 3; have hfz163_4 := blk_frozen BK183.out 4; have hfz163_5 := blk_frozen BK183.out 5; have hfz163_6 := blk_frozen BK183.out 6; have hfz163_7 := blk_frozen BK183.out 7; have hfz163_8 := blk_frozen BK183.out 8; have hfz163_9 := blk_frozen BK183.out 9) | ((with_reducible refine gate_callee (f := 7) rfl ?_); refine goesL_ (some 12) rfl rfl Tryd.func7 (by kernel_rfl) rfl #[.agg #[.string a0_0, .string a0_1, .int .i64 a0_2, .int .i64 a0_3, .int .i64 a0_4, .int .i64 a0_5, .int .i64 a0_6, .int .i64 a0_7, .string a0_8, .string a0_9]] rfl (by (try simp only [List.map_toArray, List.map_cons, List.map_nil]); first | done | rfl | (simp only [List.length_drop, List.length_take]; rfl)) ?_; (with_reducible refine (pannierlaw18_fits.calls a0_0 a0_1 a0_2 a0_3 a0_4 a0_5 a0_6 a0_7 a0_8 a0_9 false _ A4.out).mono ?_); rintro e w164 ⟨rfl, hb⟩; refine ⟨_, rfl, ?_⟩; have n0_ := Aside0.mk (blk_below (g := gb183) (o := .cells #[.string a0_0, .string a0_1, .int .i64 a0_2, .int .i64 a0_3, .int .i64 a0_4, .int .i64 a0_5, .int .i64 a0_6, .int .i64 a0_7, .string a0_8, .string a0_9] 23 (0, 0)) (by (with_reducible repeat (first | refine blk_drewN ?_ _ | refine blk_drew ?_ | refine blk_alloc ?_ _)); exact BK183.out) hb); have n1_ := Aside0.mk (below_step (by repeat (first | (with_reducible first | exact HB.out | apply below_alloc | apply pw_below_drewN | apply below_drew1 | refine below_set ?_ GE183.out) | exact HB.out)) hb); clear BK183; clear HB; have BK183 := n0_; have HB := n1_; clear n0_ n1_; (try clear hb); (try clear hb2); (try clear hk); (try clear hi)))
   go_ret
   exact ⟨by first | rfl | (simp [errW_none, errW_some] <;> rfl) | (simp [*, errW_none, errW_some] <;> rfl), by repeat (first | (with_reducible first | exact HB.out | apply below_alloc | apply pw_below_drewN | apply below_drew1 | refine below_set ?_ GE183.out) | exact HB.out)⟩
 ·replace c3 := Bool.eq_false_iff.mpr c3
  subst c3
  have H1 : (some false) = some r := by rw [if_neg (show ¬ (false = true) by decide)] at H; exact H
  clear H
  have H := H1
  clear H1
  obtain rfl := Option.some.inj H
  go_enter Tryd.func5, Tryd.ntmps5
  go_wp2_with (first | ((with_reducible refine gate_dst (N := 1) rfl ?_); refine box_event ?hg (N := 1) ?hd (cs := #[.string a0_0, .string a0_1, .int .i64 a0_2, .int .i64 a0_3, .int .i64 a0_4, .int .i64 a0_5, .int .i64 a0_6, .int .i64 a0_7, .string a0_8, .string a0_9]) (t := 23) ?hr ?_; (case hd => rfl); (case hg => rfl); (case hr => first | (go_simp; done) | (go_simp; rfl)); intro gb183 hg w165 hbox hb; have n0_ := Aside0.mk (below_step (by repeat (first | (with_reducible first | exact HB.out | apply below_alloc | apply pw_below_drewN | apply below_drew1) | exact HB.out)) hb); have n1_ := Aside0.mk (hbox); have n2_ := Aside0.mk ((by rw [hg]; exact (below_size (by repeat (first | (with_reducible first | exact HB.out | apply below_alloc | apply pw_below_drewN | apply below_drew1) | exact HB.out))) : w.heap.size ≤ gb183)); have n3_ := Aside0.mk ((by rw [hg]; exact (below_size (by repeat (first | (with_reducible first | exact HB.out | apply below_alloc | apply pw_below_drewN | apply below_drew1) | exact HB.out))) : w.heap.size ≤ gb183)); clear HB; have HB := n0_; have BK183 := n1_; have GW183 := n2_; have GE183 := n3_; clear n0_ n1_ n2_ n3_; clear hb hbox hg) | ((with_reducible refine gate_callee (f := 6) rfl ?_); refine goesL_ (some 9) rfl rfl Tryd.func6 (by kernel_rfl) rfl #[] rfl (by (try simp only [List.map_toArray, List.map_cons, List.map_nil]); first | done | rfl | (simp only [List.length_drop, List.length_take]; rfl)) ?_; (with_reducible refine (pannierlaw18_writes.calls k  false _ ?side1 A2.out).mono ?_); (case side1 => exact HE_.out.below (by repeat (first | (with_reducible first | exact HB.out | apply below_alloc | apply pw_below_drewN | apply below_drew1 | refine below_set ?_ GE183.out) | exact HB.out))); rintro e w166 ⟨rfl, hb⟩; refine ⟨_, rfl, ?_⟩; have n0_ := Aside0.mk (blk_below (g := gb183) (o := .cells #[.string a0_0, .string a0_1, .int .i64 a0_2, .int .i64 a0_3, .int .i64 a0_4, .int .i64 a0_5, .int .i64 a0_6, .int .i64 a0_7, .string a0_8, .string a0_9] 23 (0, 0)) (by (with_reducible repeat (first | refine blk_drewN ?_ _ | refine blk_drew ?_ | refine blk_alloc ?_ _)); exact BK183.out) hb); have n1_ := Aside0.mk (below_step (by repeat (first | (with_reducible first | exact HB.out | apply below_alloc | apply pw_below_drewN | apply below_drew1 | refine below_set ?_ GE183.out) | exact HB.out)) hb); clear BK183; clear HB; have BK183 := n0_; have HB := n1_; clear n0_ n1_; (try clear hb); (try clear hb2); (try clear hk); (try clear hi)))
  go_ret
  exact ⟨by first | rfl | (simp [errW_none, errW_some] <;> rfl) | (simp [*, errW_none, errW_some] <;> rfl), by repeat (first | (with_reducible first | exact HB.out | apply below_alloc | apply pw_below_drewN | apply below_drew1 | refine below_set ?_ GE183.out) | exact HB.out)⟩

end Go.Proofs.YtpbpfngichfgeaaDoor.PEmit
