-- Printed by a program of ours (wip/print2).
import Derived.Test.YtbkhhmgpfjemcaaDoorAskRExt
import Derived.Test.YtbkhhmgpfjemcaaDoorPAskRx0
import Derived.Test.YtbkhhmgpfjemcaaDoorPAskRx1
namespace Go.Proofs.YtbkhhmgpfjemcaaDoor.PAskR
open Go.RowKit Go.Proofs.YtbkhhmgpfjemcaaDoorW.PrintWords Go.Proofs.YtbkhhmgpfjemcaaDoorW.PrintLast Go.Proofs.YtbkhhmgpfjemcaaDoorW.PrintMore
attribute [local go_sem] max2_int min2_int max_two min_two max_three min_three max_four min_four   -- for this text's walks alone
set_option linter.unusedVariables false
set_option linter.unusedSimpArgs false

/-! ### pannierref20_Decode: function 11 -/
mutual
def pannierref20_Decode.l0 : Nat → List ByteArray → ByteArray → ByteArray → Int → Int → Int → Int → Int → ByteArray → ByteArray → Option (Int × Int × Int × Int × ByteArray × ByteArray × Int)
 | 0, _, _, _, _, _, _, _, _, _, _ => none
 | k + 1, x4, x5, x6, x8, x109000, x109001, x109002, x109003, x109004, x109005 => if x8 < (x4.length : Int) then (if 0 ≤ x8 then (if (rdOf ByteArray.empty x4 x8).toList = x5.toList then (pannierref20_Decode.l0 k x4 x5 x6 (wrap64 (x8 + 1)) (wrap64 (x8 + 1)) x109001 x109002 x109003 x109004 x109005) else (pannierref20_Decode.l0 k x4 x5 x6 (wrap64 (x8 + 1)) x109000 x109001 x109002 x109003 x109004 x109005)) else (none)) else (if x109000 = 0 then (some (0, 0, 0, 0, (⟨#[]⟩ : ByteArray), (⟨#[]⟩ : ByteArray), 200)) else (if x109000 = 11 then (pannierref20_Decode.j1 k x6 x109000 x109000 x109001 x109002 x109003 x109004 x109005) else ((pannierref20_cut.f k x6).bind fun bt110 => ((pannierref20_number.f k bt110.1).bind fun bt112 => (if bt112.2 = 0 then (pannierref20_Decode.j1 k bt110.2 x109000 x109000 bt112.1 x109002 x109003 x109004 x109005) else (some (0, 0, 0, 0, (⟨#[]⟩ : ByteArray), (⟨#[]⟩ : ByteArray), bt112.2)))))))
def pannierref20_Decode.j1 : Nat → ByteArray → Int → Int → Int → Int → Int → ByteArray → ByteArray → Option (Int × Int × Int × Int × ByteArray × ByteArray × Int)
 | 0, _, _, _, _, _, _, _, _ => none
 | k + 1, x6, x9, x109000, x109001, x109002, x109003, x109004, x109005 => if x9 = 2 then (pannierref20_Decode.j2 k x6 x9 true x109000 x109001 x109002 x109003 x109004 x109005) else (if x9 = 3 then (pannierref20_Decode.j2 k x6 x9 true x109000 x109001 x109002 x109003 x109004 x109005) else (if x9 = 4 then (pannierref20_Decode.j2 k x6 x9 true x109000 x109001 x109002 x109003 x109004 x109005) else (if x9 = 9 then (pannierref20_Decode.j2 k x6 x9 true x109000 x109001 x109002 x109003 x109004 x109005) else (pannierref20_Decode.j2 k x6 x9 (x9 == 10) x109000 x109001 x109002 x109003 x109004 x109005))))
def pannierref20_Decode.j2 : Nat → ByteArray → Int → Bool → Int → Int → Int → Int → ByteArray → ByteArray → Option (Int × Int × Int × Int × ByteArray × ByteArray × Int)
 | 0, _, _, _, _, _, _, _, _, _ => none
 | k + 1, x6, x9, x87, x109000, x109001, x109002, x109003, x109004, x109005 => if x87 = true then ((pannierref20_cut.f k x6).bind fun bt114 => ((pannierref20_number.f k bt114.1).bind fun bt116 => (if bt116.2 = 0 then (pannierref20_Decode.j3 k bt114.2 x9 x109000 x109001 bt116.1 x109003 x109004 x109005) else (some (0, 0, 0, 0, (⟨#[]⟩ : ByteArray), (⟨#[]⟩ : ByteArray), bt116.2))))) else (pannierref20_Decode.j3 k x6 x9 x109000 x109001 x109002 x109003 x109004 x109005)
def pannierref20_Decode.j3 : Nat → ByteArray → Int → Int → Int → Int → Int → ByteArray → ByteArray → Option (Int × Int × Int × Int × ByteArray × ByteArray × Int)
 | 0, _, _, _, _, _, _, _, _ => none
 | k + 1, x6, x9, x109000, x109001, x109002, x109003, x109004, x109005 => if x9 = 9 then (pannierref20_Decode.j4 k x6 x9 true x109000 x109001 x109002 x109003 x109004 x109005) else (pannierref20_Decode.j4 k x6 x9 (x9 == 11) x109000 x109001 x109002 x109003 x109004 x109005)
def pannierref20_Decode.j4 : Nat → ByteArray → Int → Bool → Int → Int → Int → Int → ByteArray → ByteArray → Option (Int × Int × Int × Int × ByteArray × ByteArray × Int)
 | 0, _, _, _, _, _, _, _, _, _ => none
 | k + 1, x6, x9, x109, x109000, x109001, x109002, x109003, x109004, x109005 => if x109 = true then ((pannierref20_cut.f k x6).bind fun bt118 => ((pannierref20_number.f k bt118.1).bind fun bt120 => (if bt120.2 = 0 then (pannierref20_Decode.j5 k bt118.2 x9 x109000 x109001 x109002 bt120.1 x109004 x109005) else (some (0, 0, 0, 0, (⟨#[]⟩ : ByteArray), (⟨#[]⟩ : ByteArray), bt120.2))))) else (pannierref20_Decode.j5 k x6 x9 x109000 x109001 x109002 x109003 x109004 x109005)
def pannierref20_Decode.j5 : Nat → ByteArray → Int → Int → Int → Int → Int → ByteArray → ByteArray → Option (Int × Int × Int × Int × ByteArray × ByteArray × Int)
 | 0, _, _, _, _, _, _, _, _ => none
 | k + 1, x6, x9, x109000, x109001, x109002, x109003, x109004, x109005 => if x9 ≥ 5 then (pannierref20_Decode.j6 k x6 x9 (decide (x9 ≤ 8)) x109000 x109001 x109002 x109003 x109004 x109005) else (pannierref20_Decode.j6 k x6 x9 false x109000 x109001 x109002 x109003 x109004 x109005)
def pannierref20_Decode.j6 : Nat → ByteArray → Int → Bool → Int → Int → Int → Int → ByteArray → ByteArray → Option (Int × Int × Int × Int × ByteArray × ByteArray × Int)
 | 0, _, _, _, _, _, _, _, _, _ => none
 | k + 1, x6, x9, x131, x109000, x109001, x109002, x109003, x109004, x109005 => if x131 = true then (some (x109000, x109001, x109002, x109003, x6, x109005, 0)) else (if x9 = 2 then (if ((x6.size : Int) % 2) = 0 then (pannierref20_Decode.l1 k x6 0 x109000 x109001 x109002 x109003 x109004 x109005) else (some (0, 0, 0, 0, (⟨#[]⟩ : ByteArray), (⟨#[]⟩ : ByteArray), 200))) else (if x6.toList = ([] : List UInt8) then (some (x109000, x109001, x109002, x109003, x109004, x109005, 0)) else (some (0, 0, 0, 0, (⟨#[]⟩ : ByteArray), (⟨#[]⟩ : ByteArray), 200))))
def pannierref20_Decode.l1 : Nat → ByteArray → Int → Int → Int → Int → Int → ByteArray → ByteArray → Option (Int × Int × Int × Int × ByteArray × ByteArray × Int)
 | 0, _, _, _, _, _, _, _, _ => none
 | k + 1, x6, x17, x109000, x109001, x109002, x109003, x109004, x109005 => if x17 < (x6.size : Int) then (if 0 ≤ x17 then ((pannierref20_digit.f k (bt x6 x17)).bind fun t122 => (if 0 ≤ (wrap64 (x17 + 1)) then (if (wrap64 (x17 + 1)) < (x6.size : Int) then ((pannierref20_digit.f k (bt x6 (wrap64 (x17 + 1)))).bind fun t123 => (if t122 < 0 then (some (0, 0, 0, 0, (⟨#[]⟩ : ByteArray), (⟨#[]⟩ : ByteArray), 200)) else (if t123 < 0 then (some (0, 0, 0, 0, (⟨#[]⟩ : ByteArray), (⟨#[]⟩ : ByteArray), 200)) else ((some (([(wrap64 ((wrap64 (16 * t122)) + t123)) % 256] : List Int) : List Int)).bind fun y124 => (if x109005.size + (strOfNums y124).size ≤ 9223372036854775807 then (pannierref20_Decode.l1 k x6 (wrap64 (x17 + 2)) x109000 x109001 x109002 x109003 x109004 (x109005 ++ (strOfNums y124))) else (none)))))) else (none)) else (none))) else (none)) else (some (x109000, x109001, x109002, x109003, x109004, x109005, 0))
end
def pannierref20_Decode.f (k : Nat) (a0 : ByteArray) : Option (Int × Int × Int × Int × ByteArray × ByteArray × Int) := if (a0.size : Int) > 16384 then (some (0, 0, 0, 0, (⟨#[]⟩ : ByteArray), (⟨#[]⟩ : ByteArray), 2)) else ((pannierref20_cut.f k a0).bind fun bt106 => (pannierref20_Decode.l0 k (([(⟨#[111, 112, 101, 110]⟩ : ByteArray), (⟨#[115, 101, 110, 100]⟩ : ByteArray), (⟨#[99, 111, 109, 109, 105, 116]⟩ : ByteArray), (⟨#[97, 98, 111, 114, 116]⟩ : ByteArray), (⟨#[108, 105, 115, 116]⟩ : ByteArray), (⟨#[115, 116, 97, 116]⟩ : ByteArray), (⟨#[100, 101, 108, 101, 116, 101]⟩ : ByteArray), (⟨#[103, 101, 116]⟩ : ByteArray), (⟨#[112, 117, 108, 108]⟩ : ByteArray), (⟨#[99, 108, 111, 115, 101]⟩ : ByteArray), (⟨#[116, 105, 99, 107]⟩ : ByteArray)] : List ByteArray)) bt106.1 bt106.2 0 0 0 0 0 (⟨#[]⟩ : ByteArray) (⟨#[]⟩ : ByteArray)))
theorem pannierref20_Decode.mono_l : ∀ k, (∀ y0 y1 y2 y3 y4 y5 y6 y7 y8 y9, LeO (pannierref20_Decode.l0 k y0 y1 y2 y3 y4 y5 y6 y7 y8 y9) (pannierref20_Decode.l0 (k + 1) y0 y1 y2 y3 y4 y5 y6 y7 y8 y9)) ∧ (∀ y0 y1 y2 y3 y4 y5 y6 y7, LeO (pannierref20_Decode.j1 k y0 y1 y2 y3 y4 y5 y6 y7) (pannierref20_Decode.j1 (k + 1) y0 y1 y2 y3 y4 y5 y6 y7)) ∧ (∀ y0 y1 y2 y3 y4 y5 y6 y7 y8, LeO (pannierref20_Decode.j2 k y0 y1 y2 y3 y4 y5 y6 y7 y8) (pannierref20_Decode.j2 (k + 1) y0 y1 y2 y3 y4 y5 y6 y7 y8)) ∧ (∀ y0 y1 y2 y3 y4 y5 y6 y7, LeO (pannierref20_Decode.j3 k y0 y1 y2 y3 y4 y5 y6 y7) (pannierref20_Decode.j3 (k + 1) y0 y1 y2 y3 y4 y5 y6 y7)) ∧ (∀ y0 y1 y2 y3 y4 y5 y6 y7 y8, LeO (pannierref20_Decode.j4 k y0 y1 y2 y3 y4 y5 y6 y7 y8) (pannierref20_Decode.j4 (k + 1) y0 y1 y2 y3 y4 y5 y6 y7 y8)) ∧ (∀ y0 y1 y2 y3 y4 y5 y6 y7, LeO (pannierref20_Decode.j5 k y0 y1 y2 y3 y4 y5 y6 y7) (pannierref20_Decode.j5 (k + 1) y0 y1 y2 y3 y4 y5 y6 y7)) ∧ (∀ y0 y1 y2 y3 y4 y5 y6 y7 y8, LeO (pannierref20_Decode.j6 k y0 y1 y2 y3 y4 y5 y6 y7 y8) (pannierref20_Decode.j6 (k + 1) y0 y1 y2 y3 y4 y5 y6 y7 y8)) ∧ (∀ y0 y1 y2 y3 y4 y5 y6 y7, LeO (pannierref20_Decode.l1 k y0 y1 y2 y3 y4 y5 y6 y7) (pannierref20_Decode.l1 (k + 1) y0 y1 y2 y3 y4 y5 y6 y7))
 | 0 => ⟨fun _ _ _ _ _ _ _ _ _ _ r h => by simp [pannierref20_Decode.l0] at h, fun _ _ _ _ _ _ _ _ r h => by simp [pannierref20_Decode.j1] at h, fun _ _ _ _ _ _ _ _ _ r h => by simp [pannierref20_Decode.j2] at h, fun _ _ _ _ _ _ _ _ r h => by simp [pannierref20_Decode.j3] at h, fun _ _ _ _ _ _ _ _ _ r h => by simp [pannierref20_Decode.j4] at h, fun _ _ _ _ _ _ _ _ r h => by simp [pannierref20_Decode.j5] at h, fun _ _ _ _ _ _ _ _ _ r h => by simp [pannierref20_Decode.j6] at h, fun _ _ _ _ _ _ _ _ r h => by simp [pannierref20_Decode.l1] at h⟩
 | k + 1 => by
  obtain ⟨ih0, ih1, ih2, ih3, ih4, ih5, ih6, ih7⟩ := pannierref20_Decode.mono_l k
  refine ⟨?_, ?_, ?_, ?_, ?_, ?_, ?_, ?_⟩
  ·intro y0 y1 y2 y3 y4 y5 y6 y7 y8 y9
   unfold pannierref20_Decode.l0
   repeat' first
   | (with_reducible exact ih0 _ _ _ _ _ _ _ _ _ _)
   | (with_reducible exact ih1 _ _ _ _ _ _ _ _)
   | (with_reducible exact ih2 _ _ _ _ _ _ _ _ _)
   | (with_reducible exact ih3 _ _ _ _ _ _ _ _)
   | (with_reducible exact ih4 _ _ _ _ _ _ _ _ _)
   | (with_reducible exact ih5 _ _ _ _ _ _ _ _)
   | (with_reducible exact ih6 _ _ _ _ _ _ _ _ _)
   | (with_reducible exact ih7 _ _ _ _ _ _ _ _)
   | (with_reducible exact pannierref20_cut.mono _ _)
   | (with_reducible exact pannierref20_digit.mono _ _)
   | (with_reducible exact pannierref20_number.mono _ _)
   | (with_reducible exact LeO.refl _)
   | (with_reducible exact LeO.none _)
   | (with_reducible refine LeO.ite ?_ ?_)
   | (with_reducible refine LeO.bind ?_ (fun _ => ?_))
   | exact ih0 _ _ _ _ _ _ _ _ _ _
   | exact ih1 _ _ _ _ _ _ _ _
   | exact ih2 _ _ _ _ _ _ _ _ _
   | exact ih3 _ _ _ _ _ _ _ _
   | exact ih4 _ _ _ _ _ _ _ _ _
   | exact ih5 _ _ _ _ _ _ _ _
   | exact ih6 _ _ _ _ _ _ _ _ _
   | exact ih7 _ _ _ _ _ _ _ _
   | exact pannierref20_cut.mono _ _
   | exact pannierref20_digit.mono _ _
   | exact pannierref20_number.mono _ _
   | exact LeO.none _
   | refine LeO.ite ?_ ?_
   | refine LeO.bind ?_ (fun _ => ?_)
  ·intro y0 y1 y2 y3 y4 y5 y6 y7
   unfold pannierref20_Decode.j1
   repeat' first
   | (with_reducible exact ih0 _ _ _ _ _ _ _ _ _ _)
   | (with_reducible exact ih1 _ _ _ _ _ _ _ _)
   | (with_reducible exact ih2 _ _ _ _ _ _ _ _ _)
   | (with_reducible exact ih3 _ _ _ _ _ _ _ _)
   | (with_reducible exact ih4 _ _ _ _ _ _ _ _ _)
   | (with_reducible exact ih5 _ _ _ _ _ _ _ _)
   | (with_reducible exact ih6 _ _ _ _ _ _ _ _ _)
   | (with_reducible exact ih7 _ _ _ _ _ _ _ _)
   | (with_reducible exact pannierref20_cut.mono _ _)
   | (with_reducible exact pannierref20_digit.mono _ _)
   | (with_reducible exact pannierref20_number.mono _ _)
   | (with_reducible exact LeO.refl _)
   | (with_reducible exact LeO.none _)
   | (with_reducible refine LeO.ite ?_ ?_)
   | (with_reducible refine LeO.bind ?_ (fun _ => ?_))
   | exact ih0 _ _ _ _ _ _ _ _ _ _
   | exact ih1 _ _ _ _ _ _ _ _
   | exact ih2 _ _ _ _ _ _ _ _ _
   | exact ih3 _ _ _ _ _ _ _ _
   | exact ih4 _ _ _ _ _ _ _ _ _
   | exact ih5 _ _ _ _ _ _ _ _
   | exact ih6 _ _ _ _ _ _ _ _ _
   | exact ih7 _ _ _ _ _ _ _ _
   | exact pannierref20_cut.mono _ _
   | exact pannierref20_digit.mono _ _
   | exact pannierref20_number.mono _ _
   | exact LeO.none _
   | refine LeO.ite ?_ ?_
   | refine LeO.bind ?_ (fun _ => ?_)
  ·intro y0 y1 y2 y3 y4 y5 y6 y7 y8
   unfold pannierref20_Decode.j2
   repeat' first
   | (with_reducible exact ih0 _ _ _ _ _ _ _ _ _ _)
   | (with_reducible exact ih1 _ _ _ _ _ _ _ _)
   | (with_reducible exact ih2 _ _ _ _ _ _ _ _ _)
   | (with_reducible exact ih3 _ _ _ _ _ _ _ _)
   | (with_reducible exact ih4 _ _ _ _ _ _ _ _ _)
   | (with_reducible exact ih5 _ _ _ _ _ _ _ _)
   | (with_reducible exact ih6 _ _ _ _ _ _ _ _ _)
   | (with_reducible exact ih7 _ _ _ _ _ _ _ _)
   | (with_reducible exact pannierref20_cut.mono _ _)
   | (with_reducible exact pannierref20_digit.mono _ _)
   | (with_reducible exact pannierref20_number.mono _ _)
   | (with_reducible exact LeO.refl _)
   | (with_reducible exact LeO.none _)
   | (with_reducible refine LeO.ite ?_ ?_)
   | (with_reducible refine LeO.bind ?_ (fun _ => ?_))
   | exact ih0 _ _ _ _ _ _ _ _ _ _
   | exact ih1 _ _ _ _ _ _ _ _
   | exact ih2 _ _ _ _ _ _ _ _ _
   | exact ih3 _ _ _ _ _ _ _ _
   | exact ih4 _ _ _ _ _ _ _ _ _
   | exact ih5 _ _ _ _ _ _ _ _
   | exact ih6 _ _ _ _ _ _ _ _ _
   | exact ih7 _ _ _ _ _ _ _ _
   | exact pannierref20_cut.mono _ _
   | exact pannierref20_digit.mono _ _
   | exact pannierref20_number.mono _ _
   | exact LeO.none _
   | refine LeO.ite ?_ ?_
   | refine LeO.bind ?_ (fun _ => ?_)
  ·intro y0 y1 y2 y3 y4 y5 y6 y7
   unfold pannierref20_Decode.j3
   repeat' first
   | (with_reducible exact ih0 _ _ _ _ _ _ _ _ _ _)
   | (with_reducible exact ih1 _ _ _ _ _ _ _ _)
   | (with_reducible exact ih2 _ _ _ _ _ _ _ _ _)
   | (with_reducible exact ih3 _ _ _ _ _ _ _ _)
   | (with_reducible exact ih4 _ _ _ _ _ _ _ _ _)
   | (with_reducible exact ih5 _ _ _ _ _ _ _ _)
   | (with_reducible exact ih6 _ _ _ _ _ _ _ _ _)
   | (with_reducible exact ih7 _ _ _ _ _ _ _ _)
   | (with_reducible exact pannierref20_cut.mono _ _)
   | (with_reducible exact pannierref20_digit.mono _ _)
   | (with_reducible exact pannierref20_number.mono _ _)
   | (with_reducible exact LeO.refl _)
   | (with_reducible exact LeO.none _)
   | (with_reducible refine LeO.ite ?_ ?_)
   | (with_reducible refine LeO.bind ?_ (fun _ => ?_))
   | exact ih0 _ _ _ _ _ _ _ _ _ _
   | exact ih1 _ _ _ _ _ _ _ _
   | exact ih2 _ _ _ _ _ _ _ _ _
   | exact ih3 _ _ _ _ _ _ _ _
   | exact ih4 _ _ _ _ _ _ _ _ _
   | exact ih5 _ _ _ _ _ _ _ _
   | exact ih6 _ _ _ _ _ _ _ _ _
   | exact ih7 _ _ _ _ _ _ _ _
   | exact pannierref20_cut.mono _ _
   | exact pannierref20_digit.mono _ _
   | exact pannierref20_number.mono _ _
   | exact LeO.none _
   | refine LeO.ite ?_ ?_
   | refine LeO.bind ?_ (fun _ => ?_)
  ·intro y0 y1 y2 y3 y4 y5 y6 y7 y8
   unfold pannierref20_Decode.j4
   repeat' first
   | (with_reducible exact ih0 _ _ _ _ _ _ _ _ _ _)
   | (with_reducible exact ih1 _ _ _ _ _ _ _ _)
   | (with_reducible exact ih2 _ _ _ _ _ _ _ _ _)
   | (with_reducible exact ih3 _ _ _ _ _ _ _ _)
   | (with_reducible exact ih4 _ _ _ _ _ _ _ _ _)
   | (with_reducible exact ih5 _ _ _ _ _ _ _ _)
   | (with_reducible exact ih6 _ _ _ _ _ _ _ _ _)
   | (with_reducible exact ih7 _ _ _ _ _ _ _ _)
   | (with_reducible exact pannierref20_cut.mono _ _)
   | (with_reducible exact pannierref20_digit.mono _ _)
   | (with_reducible exact pannierref20_number.mono _ _)
   | (with_reducible exact LeO.refl _)
   | (with_reducible exact LeO.none _)
   | (with_reducible refine LeO.ite ?_ ?_)
   | (with_reducible refine LeO.bind ?_ (fun _ => ?_))
   | exact ih0 _ _ _ _ _ _ _ _ _ _
   | exact ih1 _ _ _ _ _ _ _ _
   | exact ih2 _ _ _ _ _ _ _ _ _
   | exact ih3 _ _ _ _ _ _ _ _
   | exact ih4 _ _ _ _ _ _ _ _ _
   | exact ih5 _ _ _ _ _ _ _ _
   | exact ih6 _ _ _ _ _ _ _ _ _
   | exact ih7 _ _ _ _ _ _ _ _
   | exact pannierref20_cut.mono _ _
   | exact pannierref20_digit.mono _ _
   | exact pannierref20_number.mono _ _
   | exact LeO.none _
   | refine LeO.ite ?_ ?_
   | refine LeO.bind ?_ (fun _ => ?_)
  ·intro y0 y1 y2 y3 y4 y5 y6 y7
   unfold pannierref20_Decode.j5
   repeat' first
   | (with_reducible exact ih0 _ _ _ _ _ _ _ _ _ _)
   | (with_reducible exact ih1 _ _ _ _ _ _ _ _)
   | (with_reducible exact ih2 _ _ _ _ _ _ _ _ _)
   | (with_reducible exact ih3 _ _ _ _ _ _ _ _)
   | (with_reducible exact ih4 _ _ _ _ _ _ _ _ _)
   | (with_reducible exact ih5 _ _ _ _ _ _ _ _)
   | (with_reducible exact ih6 _ _ _ _ _ _ _ _ _)
   | (with_reducible exact ih7 _ _ _ _ _ _ _ _)
   | (with_reducible exact pannierref20_cut.mono _ _)
   | (with_reducible exact pannierref20_digit.mono _ _)
   | (with_reducible exact pannierref20_number.mono _ _)
   | (with_reducible exact LeO.refl _)
   | (with_reducible exact LeO.none _)
   | (with_reducible refine LeO.ite ?_ ?_)
   | (with_reducible refine LeO.bind ?_ (fun _ => ?_))
   | exact ih0 _ _ _ _ _ _ _ _ _ _
   | exact ih1 _ _ _ _ _ _ _ _
   | exact ih2 _ _ _ _ _ _ _ _ _
   | exact ih3 _ _ _ _ _ _ _ _
   | exact ih4 _ _ _ _ _ _ _ _ _
   | exact ih5 _ _ _ _ _ _ _ _
   | exact ih6 _ _ _ _ _ _ _ _ _
   | exact ih7 _ _ _ _ _ _ _ _
   | exact pannierref20_cut.mono _ _
   | exact pannierref20_digit.mono _ _
   | exact pannierref20_number.mono _ _
   | exact LeO.none _
   | refine LeO.ite ?_ ?_
   | refine LeO.bind ?_ (fun _ => ?_)
  ·intro y0 y1 y2 y3 y4 y5 y6 y7 y8
   unfold pannierref20_Decode.j6
   repeat' first
   | (with_reducible exact ih0 _ _ _ _ _ _ _ _ _ _)
   | (with_reducible exact ih1 _ _ _ _ _ _ _ _)
   | (with_reducible exact ih2 _ _ _ _ _ _ _ _ _)
   | (with_reducible exact ih3 _ _ _ _ _ _ _ _)
   | (with_reducible exact ih4 _ _ _ _ _ _ _ _ _)
   | (with_reducible exact ih5 _ _ _ _ _ _ _ _)
   | (with_reducible exact ih6 _ _ _ _ _ _ _ _ _)
   | (with_reducible exact ih7 _ _ _ _ _ _ _ _)
   | (with_reducible exact pannierref20_cut.mono _ _)
   | (with_reducible exact pannierref20_digit.mono _ _)
   | (with_reducible exact pannierref20_number.mono _ _)
   | (with_reducible exact LeO.refl _)
   | (with_reducible exact LeO.none _)
   | (with_reducible refine LeO.ite ?_ ?_)
   | (with_reducible refine LeO.bind ?_ (fun _ => ?_))
   | exact ih0 _ _ _ _ _ _ _ _ _ _
   | exact ih1 _ _ _ _ _ _ _ _
   | exact ih2 _ _ _ _ _ _ _ _ _
   | exact ih3 _ _ _ _ _ _ _ _
   | exact ih4 _ _ _ _ _ _ _ _ _
   | exact ih5 _ _ _ _ _ _ _ _
   | exact ih6 _ _ _ _ _ _ _ _ _
   | exact ih7 _ _ _ _ _ _ _ _
   | exact pannierref20_cut.mono _ _
   | exact pannierref20_digit.mono _ _
   | exact pannierref20_number.mono _ _
   | exact LeO.none _
   | refine LeO.ite ?_ ?_
   | refine LeO.bind ?_ (fun _ => ?_)
  ·intro y0 y1 y2 y3 y4 y5 y6 y7
   unfold pannierref20_Decode.l1
   repeat' first
   | (with_reducible exact ih0 _ _ _ _ _ _ _ _ _ _)
   | (with_reducible exact ih1 _ _ _ _ _ _ _ _)
   | (with_reducible exact ih2 _ _ _ _ _ _ _ _ _)
   | (with_reducible exact ih3 _ _ _ _ _ _ _ _)
   | (with_reducible exact ih4 _ _ _ _ _ _ _ _ _)
   | (with_reducible exact ih5 _ _ _ _ _ _ _ _)
   | (with_reducible exact ih6 _ _ _ _ _ _ _ _ _)
   | (with_reducible exact ih7 _ _ _ _ _ _ _ _)
   | (with_reducible exact pannierref20_cut.mono _ _)
   | (with_reducible exact pannierref20_digit.mono _ _)
   | (with_reducible exact pannierref20_number.mono _ _)
   | (with_reducible exact LeO.refl _)
   | (with_reducible exact LeO.none _)
   | (with_reducible refine LeO.ite ?_ ?_)
   | (with_reducible refine LeO.bind ?_ (fun _ => ?_))
   | exact ih0 _ _ _ _ _ _ _ _ _ _
   | exact ih1 _ _ _ _ _ _ _ _
   | exact ih2 _ _ _ _ _ _ _ _ _
   | exact ih3 _ _ _ _ _ _ _ _
   | exact ih4 _ _ _ _ _ _ _ _ _
   | exact ih5 _ _ _ _ _ _ _ _
   | exact ih6 _ _ _ _ _ _ _ _ _
   | exact ih7 _ _ _ _ _ _ _ _
   | exact pannierref20_cut.mono _ _
   | exact pannierref20_digit.mono _ _
   | exact pannierref20_number.mono _ _
   | exact LeO.none _
   | refine LeO.ite ?_ ?_
   | refine LeO.bind ?_ (fun _ => ?_)
theorem pannierref20_Decode.mono : ∀ a0 k, LeO (pannierref20_Decode.f k a0) (pannierref20_Decode.f (k + 1) a0) := by
 intro a0 k
 obtain ⟨ih0, ih1, ih2, ih3, ih4, ih5, ih6, ih7⟩ := pannierref20_Decode.mono_l k
 unfold pannierref20_Decode.f
 repeat' first
   | (with_reducible exact ih0 _ _ _ _ _ _ _ _ _ _)
   | (with_reducible exact ih1 _ _ _ _ _ _ _ _)
   | (with_reducible exact ih2 _ _ _ _ _ _ _ _ _)
   | (with_reducible exact ih3 _ _ _ _ _ _ _ _)
   | (with_reducible exact ih4 _ _ _ _ _ _ _ _ _)
   | (with_reducible exact ih5 _ _ _ _ _ _ _ _)
   | (with_reducible exact ih6 _ _ _ _ _ _ _ _ _)
   | (with_reducible exact ih7 _ _ _ _ _ _ _ _)
   | (with_reducible exact pannierref20_cut.mono _ _)
   | (with_reducible exact pannierref20_digit.mono _ _)
   | (with_reducible exact pannierref20_number.mono _ _)
   | (with_reducible exact LeO.refl _)
   | (with_reducible exact LeO.none _)
   | (with_reducible refine LeO.ite ?_ ?_)
   | (with_reducible refine LeO.bind ?_ (fun _ => ?_))
   | exact ih0 _ _ _ _ _ _ _ _ _ _
   | exact ih1 _ _ _ _ _ _ _ _
   | exact ih2 _ _ _ _ _ _ _ _ _
   | exact ih3 _ _ _ _ _ _ _ _
   | exact ih4 _ _ _ _ _ _ _ _ _
   | exact ih5 _ _ _ _ _ _ _ _
   | exact ih6 _ _ _ _ _ _ _ _ _
   | exact ih7 _ _ _ _ _ _ _ _
   | exact pannierref20_cut.mono _ _
   | exact pannierref20_digit.mono _ _
   | exact pannierref20_number.mono _ _
   | exact LeO.none _
   | refine LeO.ite ?_ ?_
   | refine LeO.bind ?_ (fun _ => ?_)
set_option maxHeartbeats 8000000 in
set_option maxRecDepth 100000 in
theorem pannierref20_Decode.calls (k : Nat) (a0 : ByteArray) (r1 : Int) (r2 : Int) (r3 : Int) (r4 : Int) (r5 : ByteArray) (r6 : ByteArray) (r7 : Int) (w : World) (h : pannierref20_Decode.f k a0 = some (r1, r2, r3, r4, r5, r6, r7)) :
  Calls Tryd.prog 11 #[.string a0] w fun e w' => e = .returned (.tuple #[.agg #[.int .i64 r1, .int .i64 r2, .int .i64 r3, .int .i64 r4, .string r5, .string r6], .int .i64 r7]) ∧ Below w.heap.size w w' := by
 have hu30 := Tryd.underlying30
 have HB := Aside0.mk (Below.refl w.heap.size w)
 have H : (if (a0.size : Int) > 16384 then (some (0, 0, 0, 0, (⟨#[]⟩ : ByteArray), (⟨#[]⟩ : ByteArray), 2)) else ((pannierref20_cut.f k a0).bind fun bt106 => (pannierref20_Decode.l0 k (([(⟨#[111, 112, 101, 110]⟩ : ByteArray), (⟨#[115, 101, 110, 100]⟩ : ByteArray), (⟨#[99, 111, 109, 109, 105, 116]⟩ : ByteArray), (⟨#[97, 98, 111, 114, 116]⟩ : ByteArray), (⟨#[108, 105, 115, 116]⟩ : ByteArray), (⟨#[115, 116, 97, 116]⟩ : ByteArray), (⟨#[100, 101, 108, 101, 116, 101]⟩ : ByteArray), (⟨#[103, 101, 116]⟩ : ByteArray), (⟨#[112, 117, 108, 108]⟩ : ByteArray), (⟨#[99, 108, 111, 115, 101]⟩ : ByteArray), (⟨#[116, 105, 99, 107]⟩ : ByteArray)] : List ByteArray)) bt106.1 bt106.2 0 0 0 0 0 (⟨#[]⟩ : ByteArray) (⟨#[]⟩ : ByteArray)))) = some (r1, r2, r3, r4, r5, r6, r7) := h
 clear h
 by_cases c2 : (a0.size : Int) > 16384
 ·rw [if_pos c2] at H
  have c2b0 : decide (16384 < (a0.size : Int)) = true := decide_eq_true c2
  have c2b1 : decide (16384 < a0.size) = true := decide_eq_true (by omega)
  clear c2
  simp only [Option.some.injEq, Prod.mk.injEq] at H
  obtain ⟨rfl, rfl, rfl, rfl, rfl, rfl, rfl⟩ := H
  go_enter Tryd.func11, Tryd.ntmps11
  go_wp2_with (first | ((with_reducible refine gate_dst (N := 2) rfl ?_); refine box_event ?hg (N := 2) ?hd (cs := #[.int .i64 0, .int .i64 0, .int .i64 0, .int .i64 0, .string (⟨#[]⟩ : ByteArray), .string (⟨#[]⟩ : ByteArray)]) (t := 30) ?hr ?_; (case hd => rfl); (case hg => rfl); (case hr => first | (go_simp; done) | (go_simp; rfl)); intro gb102 hg w3 hbox hb; have n0_ := Aside0.mk (below_step (by repeat (first | (with_reducible first | exact HB.out | apply below_alloc | apply pw_below_drewN | apply below_drew1) | exact HB.out)) hb); have n1_ := Aside0.mk (hbox); have n2_ := Aside0.mk ((by rw [hg]; exact (below_size (by repeat (first | (with_reducible first | exact HB.out | apply below_alloc | apply pw_below_drewN | apply below_drew1) | exact HB.out))) : w.heap.size ≤ gb102)); have n3_ := Aside0.mk ((by rw [hg]; exact (below_size (by repeat (first | (with_reducible first | exact HB.out | apply below_alloc | apply pw_below_drewN | apply below_drew1) | exact HB.out))) : w.heap.size ≤ gb102)); clear HB; have HB := n0_; have BK102 := n1_; have GW102 := n2_; have GE102 := n3_; clear n0_ n1_ n2_ n3_; clear hb hbox hg; have hcz4_0 : w3.cell? ⟨gb102, 0, none⟩ = some (.int .i64 0) := (blk_cell BK102.out 0).trans rfl; have hcz4_1 : w3.cell? ⟨gb102, 1, none⟩ = some (.int .i64 0) := (blk_cell BK102.out 1).trans rfl; have hcz4_2 : w3.cell? ⟨gb102, 2, none⟩ = some (.int .i64 0) := (blk_cell BK102.out 2).trans rfl; have hcz4_3 : w3.cell? ⟨gb102, 3, none⟩ = some (.int .i64 0) := (blk_cell BK102.out 3).trans rfl; have hcz4_4 : w3.cell? ⟨gb102, 4, none⟩ = some (.string (⟨#[]⟩ : ByteArray)) := (blk_cell BK102.out 4).trans rfl; have hcz4_5 : w3.cell? ⟨gb102, 5, none⟩ = some (.string (⟨#[]⟩ : ByteArray)) := (blk_cell BK102.out 5).trans rfl; have hfz4_0 := blk_frozen BK102.out 0; have hfz4_1 := blk_frozen BK102.out 1; have hfz4_2 := blk_frozen BK102.out 2; have hfz4_3 := blk_frozen BK102.out 3; have hfz4_4 := blk_frozen BK102.out 4; have hfz4_5 := blk_frozen BK102.out 5))
  repeat (go_quiet (first | ((with_reducible refine gate_dst (N := 2) rfl ?_); refine box_event ?hg (N := 2) ?hd (cs := #[.int .i64 0, .int .i64 0, .int .i64 0, .int .i64 0, .string (⟨#[]⟩ : ByteArray), .string (⟨#[]⟩ : ByteArray)]) (t := 30) ?hr ?_; (case hd => rfl); (case hg => rfl); (case hr => first | (go_simp; done) | (go_simp; rfl)); intro gb102 hg w3 hbox hb; have n0_ := Aside0.mk (below_step (by repeat (first | (with_reducible first | exact HB.out | apply below_alloc | apply pw_below_drewN | apply below_drew1) | exact HB.out)) hb); have n1_ := Aside0.mk (hbox); have n2_ := Aside0.mk ((by rw [hg]; exact (below_size (by repeat (first | (with_reducible first | exact HB.out | apply below_alloc | apply pw_below_drewN | apply below_drew1) | exact HB.out))) : w.heap.size ≤ gb102)); have n3_ := Aside0.mk ((by rw [hg]; exact (below_size (by repeat (first | (with_reducible first | exact HB.out | apply below_alloc | apply pw_below_drewN | apply below_drew1) | exact HB.out))) : w.heap.size ≤ gb102)); clear HB; have HB := n0_; have BK102 := n1_; have GW102 := n2_; have GE102 := n3_; clear n0_ n1_ n2_ n3_; clear hb hbox hg; have hcz4_0 : w3.cell? ⟨gb102, 0, none⟩ = some (.int .i64 0) := (blk_cell BK102.out 0).trans rfl; have hcz4_1 : w3.cell? ⟨gb102, 1, none⟩ = some (.int .i64 0) := (blk_cell BK102.out 1).trans rfl; have hcz4_2 : w3.cell? ⟨gb102, 2, none⟩ = some (.int .i64 0) := (blk_cell BK102.out 2).trans rfl; have hcz4_3 : w3.cell? ⟨gb102, 3, none⟩ = some (.int .i64 0) := (blk_cell BK102.out 3).trans rfl; have hcz4_4 : w3.cell? ⟨gb102, 4, none⟩ = some (.string (⟨#[]⟩ : ByteArray)) := (blk_cell BK102.out 4).trans rfl; have hcz4_5 : w3.cell? ⟨gb102, 5, none⟩ = some (.string (⟨#[]⟩ : ByteArray)) := (blk_cell BK102.out 5).trans rfl; have hfz4_0 := blk_frozen BK102.out 0; have hfz4_1 := blk_frozen BK102.out 1; have hfz4_2 := blk_frozen BK102.out 2; have hfz4_3 := blk_frozen BK102.out 3; have hfz4_4 := blk_frozen BK102.out 4; have hfz4_5 := blk_frozen BK102.out 5)); try go_wp2_with (first | ((with_reducible refine gate_dst (N := 2) rfl ?_); refine box_event ?hg (N := 2) ?hd (cs := #[.int .i64 0, .int .i64 0, .int .i64 0, .int .i64 0, .string (⟨#[]⟩ : ByteArray), .string (⟨#[]⟩ : ByteArray)]) (t := 30) ?hr ?_; (case hd => rfl); (case hg => rfl); (case hr => first | (go_simp; done) | (go_simp; rfl)); intro gb102 hg w3 hbox hb; have n0_ := Aside0.mk (below_step (by repeat (first | (with_reducible first | exact HB.out | apply below_alloc | apply pw_below_drewN | apply below_drew1) | exact HB.out)) hb); have n1_ := Aside0.mk (hbox); have n2_ := Aside0.mk ((by rw [hg]; exact (below_size (by repeat (first | (with_reducible first | exact HB.out | apply below_alloc | apply pw_below_drewN | apply below_drew1) | exact HB.out))) : w.heap.size ≤ gb102)); have n3_ := Aside0.mk ((by rw [hg]; exact (below_size (by repeat (first | (with_reducible first | exact HB.out | apply below_alloc | apply pw_below_drewN | apply below_drew1) | exact HB.out))) : w.heap.size ≤ gb102)); clear HB; have HB := n0_; have BK102 := n1_; have GW102 := n2_; have GE102 := n3_; clear n0_ n1_ n2_ n3_; clear hb hbox hg; have hcz4_0 : w3.cell? ⟨gb102, 0, none⟩ = some (.int .i64 0) := (blk_cell BK102.out 0).trans rfl; have hcz4_1 : w3.cell? ⟨gb102, 1, none⟩ = some (.int .i64 0) := (blk_cell BK102.out 1).trans rfl; have hcz4_2 : w3.cell? ⟨gb102, 2, none⟩ = some (.int .i64 0) := (blk_cell BK102.out 2).trans rfl; have hcz4_3 : w3.cell? ⟨gb102, 3, none⟩ = some (.int .i64 0) := (blk_cell BK102.out 3).trans rfl; have hcz4_4 : w3.cell? ⟨gb102, 4, none⟩ = some (.string (⟨#[]⟩ : ByteArray)) := (blk_cell BK102.out 4).trans rfl; have hcz4_5 : w3.cell? ⟨gb102, 5, none⟩ = some (.string (⟨#[]⟩ : ByteArray)) := (blk_cell BK102.out 5).trans rfl; have hfz4_0 := blk_frozen BK102.out 0; have hfz4_1 := blk_frozen BK102.out 1; have hfz4_2 := blk_frozen BK102.out 2; have hfz4_3 := blk_frozen BK102.out 3; have hfz4_4 := blk_frozen BK102.out 4; have hfz4_5 := blk_frozen BK102.out 5)))
  refine bodyPost_ret (results_ct rfl _ _ gb102 30 #[.int .i64 0, .int .i64 0, .int .i64 0, .int .i64 0, .string (⟨#[]⟩ : ByteArray), .string (⟨#[]⟩ : ByteArray)] (0, 0) _ rfl (by (with_reducible repeat (first | refine blk_drewN ?_ _ | refine blk_drew ?_ | refine blk_alloc ?_ _)); refine blk_put (cs := #[.int .i64 0, .int .i64 0, .int .i64 0, .int .i64 0, .string (⟨#[]⟩ : ByteArray), .string (⟨#[]⟩ : ByteArray)]) ?_ 5 _ rfl; (with_reducible repeat (first | refine blk_drewN ?_ _ | refine blk_drew ?_ | refine blk_alloc ?_ _)); refine blk_put (cs := #[.int .i64 0, .int .i64 0, .int .i64 0, .int .i64 0, .string (⟨#[]⟩ : ByteArray), .string (⟨#[]⟩ : ByteArray)]) ?_ 4 _ rfl; (with_reducible repeat (first | refine blk_drewN ?_ _ | refine blk_drew ?_ | refine blk_alloc ?_ _)); refine blk_put (cs := #[.int .i64 0, .int .i64 0, .int .i64 0, .int .i64 0, .string (⟨#[]⟩ : ByteArray), .string (⟨#[]⟩ : ByteArray)]) ?_ 3 _ rfl; (with_reducible repeat (first | refine blk_drewN ?_ _ | refine blk_drew ?_ | refine blk_alloc ?_ _)); refine blk_put (cs := #[.int .i64 0, .int .i64 0, .int .i64 0, .int .i64 0, .string (⟨#[]⟩ : ByteArray), .string (⟨#[]⟩ : ByteArray)]) ?_ 2 _ rfl; (with_reducible repeat (first | refine blk_drewN ?_ _ | refine blk_drew ?_ | refine blk_alloc ?_ _)); refine blk_put (cs := #[.int .i64 0, .int .i64 0, .int .i64 0, .int .i64 0, .string (⟨#[]⟩ : ByteArray), .string (⟨#[]⟩ : ByteArray)]) ?_ 1 _ rfl; (with_reducible repeat (first | refine blk_drewN ?_ _ | refine blk_drew ?_ | refine blk_alloc ?_ _)); refine blk_put (cs := #[.int .i64 0, .int .i64 0, .int .i64 0, .int .i64 0, .string (⟨#[]⟩ : ByteArray), .string (⟨#[]⟩ : ByteArray)]) ?_ 0 _ rfl; (with_reducible repeat (first | refine blk_drewN ?_ _ | refine blk_drew ?_ | refine blk_alloc ?_ _)); exact BK102.out) Tryd.underlying30 rfl (by kernel_rfl)) rfl ?_
  exact ⟨by first | rfl | (simp [errW_none, errW_some] <;> rfl) | (simp [*, errW_none, errW_some] <;> rfl), by repeat (first | (with_reducible first | exact HB.out | apply below_alloc | apply pw_below_drewN | apply below_drew1 | refine below_set ?_ GE102.out) | exact HB.out)⟩
 ·rw [if_neg c2] at H
  have c2b0 : decide (16384 < (a0.size : Int)) = false := decide_eq_false c2
  have c2b1 : decide (16384 < a0.size) = false := decide_eq_false (by omega)
  clear c2
  obtain ⟨y103, hy103⟩ : ∃ y_ : List ByteArray, y_ = (([(⟨#[111, 112, 101, 110]⟩ : ByteArray), (⟨#[115, 101, 110, 100]⟩ : ByteArray), (⟨#[99, 111, 109, 109, 105, 116]⟩ : ByteArray), (⟨#[97, 98, 111, 114, 116]⟩ : ByteArray), (⟨#[108, 105, 115, 116]⟩ : ByteArray), (⟨#[115, 116, 97, 116]⟩ : ByteArray), (⟨#[100, 101, 108, 101, 116, 101]⟩ : ByteArray), (⟨#[103, 101, 116]⟩ : ByteArray), (⟨#[112, 117, 108, 108]⟩ : ByteArray), (⟨#[99, 108, 111, 115, 101]⟩ : ByteArray), (⟨#[116, 105, 99, 107]⟩ : ByteArray)] : List ByteArray)) := ⟨_, rfl⟩
  replace H : ((pannierref20_cut.f k a0).bind fun bt106 => (pannierref20_Decode.l0 k y103 bt106.1 bt106.2 0 0 0 0 0 (⟨#[]⟩ : ByteArray) (⟨#[]⟩ : ByteArray))) = some (r1, r2, r3, r4, r5, r6, r7) := by first | (rw [hy103]; with_reducible exact H) | (have H2_ := (Option.bind_some _ _).symm.trans H; rw [hy103]; with_reducible exact H2_) | (have H2_ := (Option.bind_some _ _).symm.trans H; with_reducible exact H2_) | with_reducible exact H | (rw [hy103]; exact H) | exact H
  have Ny103 := Aside0.mk hy103
  clear hy103
  replace H := Option.bind_eq_some_iff.mp H
  obtain ⟨⟨t106, t107⟩, A50, H⟩ := H
  replace H : (pannierref20_Decode.l0 k y103 t106 t107 0 0 0 0 0 (⟨#[]⟩ : ByteArray) (⟨#[]⟩ : ByteArray)) = some (r1, r2, r3, r4, r5, r6, r7) := H
  have A5 := Aside0.mk A50
  clear A50
  have H' := Aside0.mk H
  clear H
  go_enter Tryd.func11, Tryd.ntmps11
  go_wp2_with (first | ((with_reducible refine gate_dst (N := 2) rfl ?_); refine box_event ?hg (N := 2) ?hd (cs := #[.int .i64 0, .int .i64 0, .int .i64 0, .int .i64 0, .string (⟨#[]⟩ : ByteArray), .string (⟨#[]⟩ : ByteArray)]) (t := 30) ?hr ?_; (case hd => rfl); (case hg => rfl); (case hr => first | (go_simp; done) | (go_simp; rfl)); intro gb102 hg w6 hbox hb; have n0_ := Aside0.mk (below_step (by repeat (first | (with_reducible first | exact HB.out | apply below_alloc | apply pw_below_drewN | apply below_drew1) | exact HB.out)) hb); have n1_ := Aside0.mk (hbox); have n2_ := Aside0.mk ((by rw [hg]; exact (below_size (by repeat (first | (with_reducible first | exact HB.out | apply below_alloc | apply pw_below_drewN | apply below_drew1) | exact HB.out))) : w.heap.size ≤ gb102)); have n3_ := Aside0.mk ((by rw [hg]; exact (below_size (by repeat (first | (with_reducible first | exact HB.out | apply below_alloc | apply pw_below_drewN | apply below_drew1) | exact HB.out))) : w.heap.size ≤ gb102)); clear HB; have HB := n0_; have BK102 := n1_; have GW102 := n2_; have GE102 := n3_; clear n0_ n1_ n2_ n3_; clear hb hbox hg) | ((with_reducible refine gate_dst (N := 24) rfl ?_); refine Kd.R_lit Kd.string _ 9 ?hg (N := 24) ?hd (xs := ([(⟨#[111, 112, 101, 110]⟩ : ByteArray), (⟨#[115, 101, 110, 100]⟩ : ByteArray), (⟨#[99, 111, 109, 109, 105, 116]⟩ : ByteArray), (⟨#[97, 98, 111, 114, 116]⟩ : ByteArray), (⟨#[108, 105, 115, 116]⟩ : ByteArray), (⟨#[115, 116, 97, 116]⟩ : ByteArray), (⟨#[100, 101, 108, 101, 116, 101]⟩ : ByteArray), (⟨#[103, 101, 116]⟩ : ByteArray), (⟨#[112, 117, 108, 108]⟩ : ByteArray), (⟨#[99, 108, 111, 115, 101]⟩ : ByteArray), (⟨#[116, 105, 99, 107]⟩ : ByteArray)] : List ByteArray)) (inner := [.string (⟨#[111, 112, 101, 110]⟩ : ByteArray), .string (⟨#[115, 101, 110, 100]⟩ : ByteArray), .string (⟨#[99, 111, 109, 109, 105, 116]⟩ : ByteArray), .string (⟨#[97, 98, 111, 114, 116]⟩ : ByteArray), .string (⟨#[108, 105, 115, 116]⟩ : ByteArray), .string (⟨#[115, 116, 97, 116]⟩ : ByteArray), .string (⟨#[100, 101, 108, 101, 116, 101]⟩ : ByteArray), .string (⟨#[103, 101, 116]⟩ : ByteArray), .string (⟨#[112, 117, 108, 108]⟩ : ByteArray), .string (⟨#[99, 108, 111, 115, 101]⟩ : ByteArray), .string (⟨#[116, 105, 99, 107]⟩ : ByteArray)]) (ok := fun _ => True) (okp := fun _ => True) ?hr ?hp (fun _ hk => hk) trivial (Below.refl _ _) (Nat.le_refl _) (by simp) ?_; (case hd => rfl); (case hg => rfl); (case hr => first | (go_simp; done) | (go_simp; rfl)); (case hp => exact (Reps.one (show Kd.M Kd.string _ _ _ (⟨#[111, 112, 101, 110]⟩ : ByteArray) [.string (⟨#[111, 112, 101, 110]⟩ : ByteArray)] from rfl) (Reps.one (show Kd.M Kd.string _ _ _ (⟨#[115, 101, 110, 100]⟩ : ByteArray) [.string (⟨#[115, 101, 110, 100]⟩ : ByteArray)] from rfl) (Reps.one (show Kd.M Kd.string _ _ _ (⟨#[99, 111, 109, 109, 105, 116]⟩ : ByteArray) [.string (⟨#[99, 111, 109, 109, 105, 116]⟩ : ByteArray)] from rfl) (Reps.one (show Kd.M Kd.string _ _ _ (⟨#[97, 98, 111, 114, 116]⟩ : ByteArray) [.string (⟨#[97, 98, 111, 114, 116]⟩ : ByteArray)] from rfl) (Reps.one (show Kd.M Kd.string _ _ _ (⟨#[108, 105, 115, 116]⟩ : ByteArray) [.string (⟨#[108, 105, 115, 116]⟩ : ByteArray)] from rfl) (Reps.one (show Kd.M Kd.string _ _ _ (⟨#[115, 116, 97, 116]⟩ : ByteArray) [.string (⟨#[115, 116, 97, 116]⟩ : ByteArray)] from rfl) (Reps.one (show Kd.M Kd.string _ _ _ (⟨#[100, 101, 108, 101, 116, 101]⟩ : ByteArray) [.string (⟨#[100, 101, 108, 101, 116, 101]⟩ : ByteArray)] from rfl) (Reps.one (show Kd.M Kd.string _ _ _ (⟨#[103, 101, 116]⟩ : ByteArray) [.string (⟨#[103, 101, 116]⟩ : ByteArray)] from rfl) (Reps.one (show Kd.M Kd.string _ _ _ (⟨#[112, 117, 108, 108]⟩ : ByteArray) [.string (⟨#[112, 117, 108, 108]⟩ : ByteArray)] from rfl) (Reps.one (show Kd.M Kd.string _ _ _ (⟨#[99, 108, 111, 115, 101]⟩ : ByteArray) [.string (⟨#[99, 108, 111, 115, 101]⟩ : ByteArray)] from rfl) (Reps.one (show Kd.M Kd.string _ _ _ (⟨#[116, 105, 99, 107]⟩ : ByteArray) [.string (⟨#[116, 105, 99, 107]⟩ : ByteArray)] from rfl) (Reps.none _ _))))))))))))); intro v104 w7 ho8 hb hg_ hnew_; clear hg_ hnew_; (first | rw [← Ny103.out] at ho8 | (simp only [Int.reduceToNat] at ho8; rw [← Ny103.out] at ho8)); have n0_ := Aside0.mk (Kd.R_lower ho8 (below_size (by repeat (first | (with_reducible first | exact HB.out | apply below_alloc | apply pw_below_drewN | apply below_drew1 | refine below_set ?_ GE102.out) | exact HB.out)))); have n1_ := Aside0.mk (blk_below (g := gb102) (o := .cells #[.int .i64 0, .int .i64 0, .int .i64 0, .int .i64 0, .string (⟨#[]⟩ : ByteArray), .string (⟨#[]⟩ : ByteArray)] 30 (0, 0)) (by (with_reducible repeat (first | refine blk_drewN ?_ _ | refine blk_drew ?_ | refine blk_alloc ?_ _)); exact BK102.out) hb); have n2_ := Aside0.mk (below_step (by repeat (first | (with_reducible first | exact HB.out | apply below_alloc | apply pw_below_drewN | apply below_drew1 | refine below_set ?_ GE102.out) | exact HB.out)) hb); clear BK102; clear HB; have HO105 := n0_; have BK102 := n1_; have HB := n2_; clear n0_ n1_ n2_; clear hb ho8) | (go_at_call 17; (with_reducible refine (pannierref20_cut.calls k a0 t106 t107 _ A5.out).mono ?_); rintro e w' ⟨rfl, ⟨nd, rfl⟩⟩; (try first | exact ⟨rfl, _, World.drewN_drewN _ _ _⟩ | exact ⟨rfl, _, Eq.trans (World.drewN_drewN _ _ _) (congrArg (World.drewN _) (Nat.add_assoc _ _ _))⟩)) | ((with_reducible refine gate_dst (N := 7) rfl ?_); refine box_event ?hg (N := 7) ?hd (cs := #[.int .i64 0, .int .i64 0, .int .i64 0, .int .i64 0, .string (⟨#[]⟩ : ByteArray), .string (⟨#[]⟩ : ByteArray)]) (t := 30) ?hr ?_; (case hd => rfl); (case hg => rfl); (case hr => first | (go_simp; done) | (go_simp; rfl)); intro gb108 hg w9 hbox hb; have n0_ := Aside0.mk (Kd.R_below (by (with_reducible repeat (first | apply Kd.R_alloc | apply Kd.R_drewN | apply Kd.R_drew)); exact HO105.out) hb); have n1_ := Aside0.mk (blk_below (g := gb102) (o := .cells #[.int .i64 0, .int .i64 0, .int .i64 0, .int .i64 0, .string (⟨#[]⟩ : ByteArray), .string (⟨#[]⟩ : ByteArray)] 30 (0, 0)) (by (with_reducible repeat (first | refine blk_drewN ?_ _ | refine blk_drew ?_ | refine blk_alloc ?_ _)); exact BK102.out) hb); have n2_ := Aside0.mk (below_step (by repeat (first | (with_reducible first | exact HB.out | apply below_alloc | apply pw_below_drewN | apply below_drew1 | refine below_set ?_ GE102.out) | exact HB.out)) hb); have n3_ := Aside0.mk (hbox); have n4_ := Aside0.mk ((by rw [hg]; exact (below_size (by repeat (first | (with_reducible first | exact HB.out | apply below_alloc | apply pw_below_drewN | apply below_drew1 | refine below_set ?_ GE102.out) | exact HB.out))) : w.heap.size ≤ gb108)); have n5_ := Aside0.mk ((by rw [hg]; exact (below_size (by repeat (first | (with_reducible first | exact HB.out | apply below_alloc | apply pw_below_drewN | apply below_drew1 | refine below_set ?_ GE102.out) | exact HB.out))) : w.heap.size ≤ gb108)); have n6_ := Aside0.mk ((by rw [hg]; exact Nat.ne_of_lt (blk_lt (g := gb102) (o := .cells #[.int .i64 0, .int .i64 0, .int .i64 0, .int .i64 0, .string (⟨#[]⟩ : ByteArray), .string (⟨#[]⟩ : ByteArray)] 30 (0, 0)) (by (with_reducible repeat (first | refine blk_drewN ?_ _ | refine blk_drew ?_ | refine blk_alloc ?_ _)); exact BK102.out)) : gb102 ≠ gb108)); have n7_ := Aside0.mk ((by rw [hg]; exact Nat.ne_of_gt (blk_lt (g := gb102) (o := .cells #[.int .i64 0, .int .i64 0, .int .i64 0, .int .i64 0, .string (⟨#[]⟩ : ByteArray), .string (⟨#[]⟩ : ByteArray)] 30 (0, 0)) (by (with_reducible repeat (first | refine blk_drewN ?_ _ | refine blk_drew ?_ | refine blk_alloc ?_ _)); exact BK102.out)) : gb108 ≠ gb102)); clear HO105; clear BK102; clear HB; have HO105 := n0_; have BK102 := n1_; have HB := n2_; have BK108 := n3_; have GW108 := n4_; have GE108 := n5_; have NB102_108 := n6_; have NB108_102 := n7_; clear n0_ n1_ n2_ n3_ n4_ n5_ n6_ n7_; clear hb hbox hg; have hnb10 := NB108_102.out; have hnc10 := NB102_108.out; have hcz11_0 : w9.cell? ⟨gb108, 0, none⟩ = some (.int .i64 0) := (blk_cell BK108.out 0).trans rfl; have hcz11_1 : w9.cell? ⟨gb108, 1, none⟩ = some (.int .i64 0) := (blk_cell BK108.out 1).trans rfl; have hcz11_2 : w9.cell? ⟨gb108, 2, none⟩ = some (.int .i64 0) := (blk_cell BK108.out 2).trans rfl; have hcz11_3 : w9.cell? ⟨gb108, 3, none⟩ = some (.int .i64 0) := (blk_cell BK108.out 3).trans rfl; have hcz11_4 : w9.cell? ⟨gb108, 4, none⟩ = some (.string (⟨#[]⟩ : ByteArray)) := (blk_cell BK108.out 4).trans rfl; have hcz11_5 : w9.cell? ⟨gb108, 5, none⟩ = some (.string (⟨#[]⟩ : ByteArray)) := (blk_cell BK108.out 5).trans rfl; have hfz11_0 := blk_frozen BK108.out 0; have hfz11_1 := blk_frozen BK108.out 1; have hfz11_2 := blk_frozen BK108.out 2; have hfz11_3 := blk_frozen BK108.out 3; have hfz11_4 := blk_frozen BK108.out 4; have hfz11_5 := blk_frozen BK108.out 5))
  repeat (go_quiet (first | ((with_reducible refine gate_dst (N := 2) rfl ?_); refine box_event ?hg (N := 2) ?hd (cs := #[.int .i64 0, .int .i64 0, .int .i64 0, .int .i64 0, .string (⟨#[]⟩ : ByteArray), .string (⟨#[]⟩ : ByteArray)]) (t := 30) ?hr ?_; (case hd => rfl); (case hg => rfl); (case hr => first | (go_simp; done) | (go_simp; rfl)); intro gb102 hg w6 hbox hb; have n0_ := Aside0.mk (below_step (by repeat (first | (with_reducible first | exact HB.out | apply below_alloc | apply pw_below_drewN | apply below_drew1) | exact HB.out)) hb); have n1_ := Aside0.mk (hbox); have n2_ := Aside0.mk ((by rw [hg]; exact (below_size (by repeat (first | (with_reducible first | exact HB.out | apply below_alloc | apply pw_below_drewN | apply below_drew1) | exact HB.out))) : w.heap.size ≤ gb102)); have n3_ := Aside0.mk ((by rw [hg]; exact (below_size (by repeat (first | (with_reducible first | exact HB.out | apply below_alloc | apply pw_below_drewN | apply below_drew1) | exact HB.out))) : w.heap.size ≤ gb102)); clear HB; have HB := n0_; have BK102 := n1_; have GW102 := n2_; have GE102 := n3_; clear n0_ n1_ n2_ n3_; clear hb hbox hg) | ((with_reducible refine gate_dst (N := 24) rfl ?_); refine Kd.R_lit Kd.string _ 9 ?hg (N := 24) ?hd (xs := ([(⟨#[111, 112, 101, 110]⟩ : ByteArray), (⟨#[115, 101, 110, 100]⟩ : ByteArray), (⟨#[99, 111, 109, 109, 105, 116]⟩ : ByteArray), (⟨#[97, 98, 111, 114, 116]⟩ : ByteArray), (⟨#[108, 105, 115, 116]⟩ : ByteArray), (⟨#[115, 116, 97, 116]⟩ : ByteArray), (⟨#[100, 101, 108, 101, 116, 101]⟩ : ByteArray), (⟨#[103, 101, 116]⟩ : ByteArray), (⟨#[112, 117, 108, 108]⟩ : ByteArray), (⟨#[99, 108, 111, 115, 101]⟩ : ByteArray), (⟨#[116, 105, 99, 107]⟩ : ByteArray)] : List ByteArray)) (inner := [.string (⟨#[111, 112, 101, 110]⟩ : ByteArray), .string (⟨#[115, 101, 110, 100]⟩ : ByteArray), .string (⟨#[99, 111, 109, 109, 105, 116]⟩ : ByteArray), .string (⟨#[97, 98, 111, 114, 116]⟩ : ByteArray), .string (⟨#[108, 105, 115, 116]⟩ : ByteArray), .string (⟨#[115, 116, 97, 116]⟩ : ByteArray), .string (⟨#[100, 101, 108, 101, 116, 101]⟩ : ByteArray), .string (⟨#[103, 101, 116]⟩ : ByteArray), .string (⟨#[112, 117, 108, 108]⟩ : ByteArray), .string (⟨#[99, 108, 111, 115, 101]⟩ : ByteArray), .string (⟨#[116, 105, 99, 107]⟩ : ByteArray)]) (ok := fun _ => True) (okp := fun _ => True) ?hr ?hp (fun _ hk => hk) trivial (Below.refl _ _) (Nat.le_refl _) (by simp) ?_; (case hd => rfl); (case hg => rfl); (case hr => first | (go_simp; done) | (go_simp; rfl)); (case hp => exact (Reps.one (show Kd.M Kd.string _ _ _ (⟨#[111, 112, 101, 110]⟩ : ByteArray) [.string (⟨#[111, 112, 101, 110]⟩ : ByteArray)] from rfl) (Reps.one (show Kd.M Kd.string _ _ _ (⟨#[115, 101, 110, 100]⟩ : ByteArray) [.string (⟨#[115, 101, 110, 100]⟩ : ByteArray)] from rfl) (Reps.one (show Kd.M Kd.string _ _ _ (⟨#[99, 111, 109, 109, 105, 116]⟩ : ByteArray) [.string (⟨#[99, 111, 109, 109, 105, 116]⟩ : ByteArray)] from rfl) (Reps.one (show Kd.M Kd.string _ _ _ (⟨#[97, 98, 111, 114, 116]⟩ : ByteArray) [.string (⟨#[97, 98, 111, 114, 116]⟩ : ByteArray)] from rfl) (Reps.one (show Kd.M Kd.string _ _ _ (⟨#[108, 105, 115, 116]⟩ : ByteArray) [.string (⟨#[108, 105, 115, 116]⟩ : ByteArray)] from rfl) (Reps.one (show Kd.M Kd.string _ _ _ (⟨#[115, 116, 97, 116]⟩ : ByteArray) [.string (⟨#[115, 116, 97, 116]⟩ : ByteArray)] from rfl) (Reps.one (show Kd.M Kd.string _ _ _ (⟨#[100, 101, 108, 101, 116, 101]⟩ : ByteArray) [.string (⟨#[100, 101, 108, 101, 116, 101]⟩ : ByteArray)] from rfl) (Reps.one (show Kd.M Kd.string _ _ _ (⟨#[103, 101, 116]⟩ : ByteArray) [.string (⟨#[103, 101, 116]⟩ : ByteArray)] from rfl) (Reps.one (show Kd.M Kd.string _ _ _ (⟨#[112, 117, 108, 108]⟩ : ByteArray) [.string (⟨#[112, 117, 108, 108]⟩ : ByteArray)] from rfl) (Reps.one (show Kd.M Kd.string _ _ _ (⟨#[99, 108, 111, 115, 101]⟩ : ByteArray) [.string (⟨#[99, 108, 111, 115, 101]⟩ : ByteArray)] from rfl) (Reps.one (show Kd.M Kd.string _ _ _ (⟨#[116, 105, 99, 107]⟩ : ByteArray) [.string (⟨#[116, 105, 99, 107]⟩ : ByteArray)] from rfl) (Reps.none _ _))))))))))))); intro v104 w7 ho8 hb hg_ hnew_; clear hg_ hnew_; (first | rw [← Ny103.out] at ho8 | (simp only [Int.reduceToNat] at ho8; rw [← Ny103.out] at ho8)); have n0_ := Aside0.mk (Kd.R_lower ho8 (below_size (by repeat (first | (with_reducible first | exact HB.out | apply below_alloc | apply pw_below_drewN | apply below_drew1 | refine below_set ?_ GE102.out) | exact HB.out)))); have n1_ := Aside0.mk (blk_below (g := gb102) (o := .cells #[.int .i64 0, .int .i64 0, .int .i64 0, .int .i64 0, .string (⟨#[]⟩ : ByteArray), .string (⟨#[]⟩ : ByteArray)] 30 (0, 0)) (by (with_reducible repeat (first | refine blk_drewN ?_ _ | refine blk_drew ?_ | refine blk_alloc ?_ _)); exact BK102.out) hb); have n2_ := Aside0.mk (below_step (by repeat (first | (with_reducible first | exact HB.out | apply below_alloc | apply pw_below_drewN | apply below_drew1 | refine below_set ?_ GE102.out) | exact HB.out)) hb); clear BK102; clear HB; have HO105 := n0_; have BK102 := n1_; have HB := n2_; clear n0_ n1_ n2_; clear hb ho8) | (go_at_call 17; (with_reducible refine (pannierref20_cut.calls k a0 t106 t107 _ A5.out).mono ?_); rintro e w' ⟨rfl, ⟨nd, rfl⟩⟩; (try first | exact ⟨rfl, _, World.drewN_drewN _ _ _⟩ | exact ⟨rfl, _, Eq.trans (World.drewN_drewN _ _ _) (congrArg (World.drewN _) (Nat.add_assoc _ _ _))⟩)) | ((with_reducible refine gate_dst (N := 7) rfl ?_); refine box_event ?hg (N := 7) ?hd (cs := #[.int .i64 0, .int .i64 0, .int .i64 0, .int .i64 0, .string (⟨#[]⟩ : ByteArray), .string (⟨#[]⟩ : ByteArray)]) (t := 30) ?hr ?_; (case hd => rfl); (case hg => rfl); (case hr => first | (go_simp; done) | (go_simp; rfl)); intro gb108 hg w9 hbox hb; have n0_ := Aside0.mk (Kd.R_below (by (with_reducible repeat (first | apply Kd.R_alloc | apply Kd.R_drewN | apply Kd.R_drew)); exact HO105.out) hb); have n1_ := Aside0.mk (blk_below (g := gb102) (o := .cells #[.int .i64 0, .int .i64 0, .int .i64 0, .int .i64 0, .string (⟨#[]⟩ : ByteArray), .string (⟨#[]⟩ : ByteArray)] 30 (0, 0)) (by (with_reducible repeat (first | refine blk_drewN ?_ _ | refine blk_drew ?_ | refine blk_alloc ?_ _)); exact BK102.out) hb); have n2_ := Aside0.mk (below_step (by repeat (first | (with_reducible first | exact HB.out | apply below_alloc | apply pw_below_drewN | apply below_drew1 | refine below_set ?_ GE102.out) | exact HB.out)) hb); have n3_ := Aside0.mk (hbox); have n4_ := Aside0.mk ((by rw [hg]; exact (below_size (by repeat (first | (with_reducible first | exact HB.out | apply below_alloc | apply pw_below_drewN | apply below_drew1 | refine below_set ?_ GE102.out) | exact HB.out))) : w.heap.size ≤ gb108)); have n5_ := Aside0.mk ((by rw [hg]; exact (below_size (by repeat (first | (with_reducible first | exact HB.out | apply below_alloc | apply pw_below_drewN | apply below_drew1 | refine below_set ?_ GE102.out) | exact HB.out))) : w.heap.size ≤ gb108)); have n6_ := Aside0.mk ((by rw [hg]; exact Nat.ne_of_lt (blk_lt (g := gb102) (o := .cells #[.int .i64 0, .int .i64 0, .int .i64 0, .int .i64 0, .string (⟨#[]⟩ : ByteArray), .string (⟨#[]⟩ : ByteArray)] 30 (0, 0)) (by (with_reducible repeat (first | refine blk_drewN ?_ _ | refine blk_drew ?_ | refine blk_alloc ?_ _)); exact BK102.out)) : gb102 ≠ gb108)); have n7_ := Aside0.mk ((by rw [hg]; exact Nat.ne_of_gt (blk_lt (g := gb102) (o := .cells #[.int .i64 0, .int .i64 0, .int .i64 0, .int .i64 0, .string (⟨#[]⟩ : ByteArray), .string (⟨#[]⟩ : ByteArray)] 30 (0, 0)) (by (with_reducible repeat (first | refine blk_drewN ?_ _ | refine blk_drew ?_ | refine blk_alloc ?_ _)); exact BK102.out)) : gb108 ≠ gb102)); clear HO105; clear BK102; clear HB; have HO105 := n0_; have BK102 := n1_; have HB := n2_; have BK108 := n3_; have GW108 := n4_; have GE108 := n5_; have NB102_108 := n6_; have NB108_102 := n7_; clear n0_ n1_ n2_ n3_ n4_ n5_ n6_ n7_; clear hb hbox hg; have hnb10 := NB108_102.out; have hnc10 := NB102_108.out; have hcz11_0 : w9.cell? ⟨gb108, 0, none⟩ = some (.int .i64 0) := (blk_cell BK108.out 0).trans rfl; have hcz11_1 : w9.cell? ⟨gb108, 1, none⟩ = some (.int .i64 0) := (blk_cell BK108.out 1).trans rfl; have hcz11_2 : w9.cell? ⟨gb108, 2, none⟩ = some (.int .i64 0) := (blk_cell BK108.out 2).trans rfl; have hcz11_3 : w9.cell? ⟨gb108, 3, none⟩ = some (.int .i64 0) := (blk_cell BK108.out 3).trans rfl; have hcz11_4 : w9.cell? ⟨gb108, 4, none⟩ = some (.string (⟨#[]⟩ : ByteArray)) := (blk_cell BK108.out 4).trans rfl; have hcz11_5 : w9.cell? ⟨gb108, 5, none⟩ = some (.string (⟨#[]⟩ : ByteArray)) := (blk_cell BK108.out 5).trans rfl; have hfz11_0 := blk_frozen BK108.out 0; have hfz11_1 := blk_frozen BK108.out 1; have hfz11_2 := blk_frozen BK108.out 2; have hfz11_3 := blk_frozen BK108.out 3; have hfz11_4 := blk_frozen BK108.out 4; have hfz11_5 := blk_frozen BK108.out 5)); try go_wp2_with (first | ((with_reducible refine gate_dst (N := 2) rfl ?_); refine box_event ?hg (N := 2) ?hd (cs := #[.int .i64 0, .int .i64 0, .int .i64 0, .int .i64 0, .string (⟨#[]⟩ : ByteArray), .string (⟨#[]⟩ : ByteArray)]) (t := 30) ?hr ?_; (case hd => rfl); (case hg => rfl); (case hr => first | (go_simp; done) | (go_simp; rfl)); intro gb102 hg w6 hbox hb; have n0_ := Aside0.mk (below_step (by repeat (first | (with_reducible first | exact HB.out | apply below_alloc | apply pw_below_drewN | apply below_drew1) | exact HB.out)) hb); have n1_ := Aside0.mk (hbox); have n2_ := Aside0.mk ((by rw [hg]; exact (below_size (by repeat (first | (with_reducible first | exact HB.out | apply below_alloc | apply pw_below_drewN | apply below_drew1) | exact HB.out))) : w.heap.size ≤ gb102)); have n3_ := Aside0.mk ((by rw [hg]; exact (below_size (by repeat (first | (with_reducible first | exact HB.out | apply below_alloc | apply pw_below_drewN | apply below_drew1) | exact HB.out))) : w.heap.size ≤ gb102)); clear HB; have HB := n0_; have BK102 := n1_; have GW102 := n2_; have GE102 := n3_; clear n0_ n1_ n2_ n3_; clear hb hbox hg) | ((with_reducible refine gate_dst (N := 24) rfl ?_); refine Kd.R_lit Kd.string _ 9 ?hg (N := 24) ?hd (xs := ([(⟨#[111, 112, 101, 110]⟩ : ByteArray), (⟨#[115, 101, 110, 100]⟩ : ByteArray), (⟨#[99, 111, 109, 109, 105, 116]⟩ : ByteArray), (⟨#[97, 98, 111, 114, 116]⟩ : ByteArray), (⟨#[108, 105, 115, 116]⟩ : ByteArray), (⟨#[115, 116, 97, 116]⟩ : ByteArray), (⟨#[100, 101, 108, 101, 116, 101]⟩ : ByteArray), (⟨#[103, 101, 116]⟩ : ByteArray), (⟨#[112, 117, 108, 108]⟩ : ByteArray), (⟨#[99, 108, 111, 115, 101]⟩ : ByteArray), (⟨#[116, 105, 99, 107]⟩ : ByteArray)] : List ByteArray)) (inner := [.string (⟨#[111, 112, 101, 110]⟩ : ByteArray), .string (⟨#[115, 101, 110, 100]⟩ : ByteArray), .string (⟨#[99, 111, 109, 109, 105, 116]⟩ : ByteArray), .string (⟨#[97, 98, 111, 114, 116]⟩ : ByteArray), .string (⟨#[108, 105, 115, 116]⟩ : ByteArray), .string (⟨#[115, 116, 97, 116]⟩ : ByteArray), .string (⟨#[100, 101, 108, 101, 116, 101]⟩ : ByteArray), .string (⟨#[103, 101, 116]⟩ : ByteArray), .string (⟨#[112, 117, 108, 108]⟩ : ByteArray), .string (⟨#[99, 108, 111, 115, 101]⟩ : ByteArray), .string (⟨#[116, 105, 99, 107]⟩ : ByteArray)]) (ok := fun _ => True) (okp := fun _ => True) ?hr ?hp (fun _ hk => hk) trivial (Below.refl _ _) (Nat.le_refl _) (by simp) ?_; (case hd => rfl); (case hg => rfl); (case hr => first | (go_simp; done) | (go_simp; rfl)); (case hp => exact (Reps.one (show Kd.M Kd.string _ _ _ (⟨#[111, 112, 101, 110]⟩ : ByteArray) [.string (⟨#[111, 112, 101, 110]⟩ : ByteArray)] from rfl) (Reps.one (show Kd.M Kd.string _ _ _ (⟨#[115, 101, 110, 100]⟩ : ByteArray) [.string (⟨#[115, 101, 110, 100]⟩ : ByteArray)] from rfl) (Reps.one (show Kd.M Kd.string _ _ _ (⟨#[99, 111, 109, 109, 105, 116]⟩ : ByteArray) [.string (⟨#[99, 111, 109, 109, 105, 116]⟩ : ByteArray)] from rfl) (Reps.one (show Kd.M Kd.string _ _ _ (⟨#[97, 98, 111, 114, 116]⟩ : ByteArray) [.string (⟨#[97, 98, 111, 114, 116]⟩ : ByteArray)] from rfl) (Reps.one (show Kd.M Kd.string _ _ _ (⟨#[108, 105, 115, 116]⟩ : ByteArray) [.string (⟨#[108, 105, 115, 116]⟩ : ByteArray)] from rfl) (Reps.one (show Kd.M Kd.string _ _ _ (⟨#[115, 116, 97, 116]⟩ : ByteArray) [.string (⟨#[115, 116, 97, 116]⟩ : ByteArray)] from rfl) (Reps.one (show Kd.M Kd.string _ _ _ (⟨#[100, 101, 108, 101, 116, 101]⟩ : ByteArray) [.string (⟨#[100, 101, 108, 101, 116, 101]⟩ : ByteArray)] from rfl) (Reps.one (show Kd.M Kd.string _ _ _ (⟨#[103, 101, 116]⟩ : ByteArray) [.string (⟨#[103, 101, 116]⟩ : ByteArray)] from rfl) (Reps.one (show Kd.M Kd.string _ _ _ (⟨#[112, 117, 108, 108]⟩ : ByteArray) [.string (⟨#[112, 117, 108, 108]⟩ : ByteArray)] from rfl) (Reps.one (show Kd.M Kd.string _ _ _ (⟨#[99, 108, 111, 115, 101]⟩ : ByteArray) [.string (⟨#[99, 108, 111, 115, 101]⟩ : ByteArray)] from rfl) (Reps.one (show Kd.M Kd.string _ _ _ (⟨#[116, 105, 99, 107]⟩ : ByteArray) [.string (⟨#[116, 105, 99, 107]⟩ : ByteArray)] from rfl) (Reps.none _ _))))))))))))); intro v104 w7 ho8 hb hg_ hnew_; clear hg_ hnew_; (first | rw [← Ny103.out] at ho8 | (simp only [Int.reduceToNat] at ho8; rw [← Ny103.out] at ho8)); have n0_ := Aside0.mk (Kd.R_lower ho8 (below_size (by repeat (first | (with_reducible first | exact HB.out | apply below_alloc | apply pw_below_drewN | apply below_drew1 | refine below_set ?_ GE102.out) | exact HB.out)))); have n1_ := Aside0.mk (blk_below (g := gb102) (o := .cells #[.int .i64 0, .int .i64 0, .int .i64 0, .int .i64 0, .string (⟨#[]⟩ : ByteArray), .string (⟨#[]⟩ : ByteArray)] 30 (0, 0)) (by (with_reducible repeat (first | refine blk_drewN ?_ _ | refine blk_drew ?_ | refine blk_alloc ?_ _)); exact BK102.out) hb); have n2_ := Aside0.mk (below_step (by repeat (first | (with_reducible first | exact HB.out | apply below_alloc | apply pw_below_drewN | apply below_drew1 | refine below_set ?_ GE102.out) | exact HB.out)) hb); clear BK102; clear HB; have HO105 := n0_; have BK102 := n1_; have HB := n2_; clear n0_ n1_ n2_; clear hb ho8) | (go_at_call 17; (with_reducible refine (pannierref20_cut.calls k a0 t106 t107 _ A5.out).mono ?_); rintro e w' ⟨rfl, ⟨nd, rfl⟩⟩; (try first | exact ⟨rfl, _, World.drewN_drewN _ _ _⟩ | exact ⟨rfl, _, Eq.trans (World.drewN_drewN _ _ _) (congrArg (World.drewN _) (Nat.add_assoc _ _ _))⟩)) | ((with_reducible refine gate_dst (N := 7) rfl ?_); refine box_event ?hg (N := 7) ?hd (cs := #[.int .i64 0, .int .i64 0, .int .i64 0, .int .i64 0, .string (⟨#[]⟩ : ByteArray), .string (⟨#[]⟩ : ByteArray)]) (t := 30) ?hr ?_; (case hd => rfl); (case hg => rfl); (case hr => first | (go_simp; done) | (go_simp; rfl)); intro gb108 hg w9 hbox hb; have n0_ := Aside0.mk (Kd.R_below (by (with_reducible repeat (first | apply Kd.R_alloc | apply Kd.R_drewN | apply Kd.R_drew)); exact HO105.out) hb); have n1_ := Aside0.mk (blk_below (g := gb102) (o := .cells #[.int .i64 0, .int .i64 0, .int .i64 0, .int .i64 0, .string (⟨#[]⟩ : ByteArray), .string (⟨#[]⟩ : ByteArray)] 30 (0, 0)) (by (with_reducible repeat (first | refine blk_drewN ?_ _ | refine blk_drew ?_ | refine blk_alloc ?_ _)); exact BK102.out) hb); have n2_ := Aside0.mk (below_step (by repeat (first | (with_reducible first | exact HB.out | apply below_alloc | apply pw_below_drewN | apply below_drew1 | refine below_set ?_ GE102.out) | exact HB.out)) hb); have n3_ := Aside0.mk (hbox); have n4_ := Aside0.mk ((by rw [hg]; exact (below_size (by repeat (first | (with_reducible first | exact HB.out | apply below_alloc | apply pw_below_drewN | apply below_drew1 | refine below_set ?_ GE102.out) | exact HB.out))) : w.heap.size ≤ gb108)); have n5_ := Aside0.mk ((by rw [hg]; exact (below_size (by repeat (first | (with_reducible first | exact HB.out | apply below_alloc | apply pw_below_drewN | apply below_drew1 | refine below_set ?_ GE102.out) | exact HB.out))) : w.heap.size ≤ gb108)); have n6_ := Aside0.mk ((by rw [hg]; exact Nat.ne_of_lt (blk_lt (g := gb102) (o := .cells #[.int .i64 0, .int .i64 0, .int .i64 0, .int .i64 0, .string (⟨#[]⟩ : ByteArray), .string (⟨#[]⟩ : ByteArray)] 30 (0, 0)) (by (with_reducible repeat (first | refine blk_drewN ?_ _ | refine blk_drew ?_ | refine blk_alloc ?_ _)); exact BK102.out)) : gb102 ≠ gb108)); have n7_ := Aside0.mk ((by rw [hg]; exact Nat.ne_of_gt (blk_lt (g := gb102) (o := .cells #[.int .i64 0, .int .i64 0, .int .i64 0, .int .i64 0, .string (⟨#[]⟩ : ByteArray), .string (⟨#[]⟩ : ByteArray)] 30 (0, 0)) (by (with_reducible repeat (first | refine blk_drewN ?_ _ | refine blk_drew ?_ | refine blk_alloc ?_ _)); exact BK102.out)) : gb108 ≠ gb102)); clear HO105; clear BK102; clear HB; have HO105 := n0_; have BK102 := n1_; have HB := n2_; have BK108 := n3_; have GW108 := n4_; have GE108 := n5_; have NB102_108 := n6_; have NB108_102 := n7_; clear n0_ n1_ n2_ n3_ n4_ n5_ n6_ n7_; clear hb hbox hg; have hnb10 := NB108_102.out; have hnc10 := NB102_108.out; have hcz11_0 : w9.cell? ⟨gb108, 0, none⟩ = some (.int .i64 0) := (blk_cell BK108.out 0).trans rfl; have hcz11_1 : w9.cell? ⟨gb108, 1, none⟩ = some (.int .i64 0) := (blk_cell BK108.out 1).trans rfl; have hcz11_2 : w9.cell? ⟨gb108, 2, none⟩ = some (.int .i64 0) := (blk_cell BK108.out 2).trans rfl; have hcz11_3 : w9.cell? ⟨gb108, 3, none⟩ = some (.int .i64 0) := (blk_cell BK108.out 3).trans rfl; have hcz11_4 : w9.cell? ⟨gb108, 4, none⟩ = some (.string (⟨#[]⟩ : ByteArray)) := (blk_cell BK108.out 4).trans rfl; have hcz11_5 : w9.cell? ⟨gb108, 5, none⟩ = some (.string (⟨#[]⟩ : ByteArray)) := (blk_cell BK108.out 5).trans rfl; have hfz11_0 := blk_frozen BK108.out 0; have hfz11_1 := blk_frozen BK108.out 1; have hfz11_2 := blk_frozen BK108.out 2; have hfz11_3 := blk_frozen BK108.out 3; have hfz11_4 := blk_frozen BK108.out 4; have hfz11_5 := blk_frozen BK108.out 5)))
  go_loopg [8] k (fun kq v8 w' => ∃ (x8_1 : Int) (x109000_1 : Int), v8 = .int .i64 x8_1 ∧ Aside0 (pannierref20_Decode.l0 kq y103 t106 t107 x8_1 x109000_1 0 0 0 (⟨#[]⟩ : ByteArray) (⟨#[]⟩ : ByteArray) = some (r1, r2, r3, r4, r5, r6, r7)) ∧ Aside0 (kq ≤ k) ∧ Aside0 (Kd.R Kd.string 9 w' w.heap.size (fun _ => True) v104 y103) ∧ Aside0 (w'.heap[gb102]? = some (.cells #[.int .i64 0, .int .i64 0, .int .i64 0, .int .i64 0, .string (⟨#[]⟩ : ByteArray), .string (⟨#[]⟩ : ByteArray)] 30 (0, 0))) ∧ Aside0 (w'.heap[gb108]? = some (.cells #[.int .i64 x109000_1, .int .i64 0, .int .i64 0, .int .i64 0, .string (⟨#[]⟩ : ByteArray), .string (⟨#[]⟩ : ByteArray)] 30 (0, 0))) ∧ Aside0 (Below w.heap.size w w'))
  case atStart => exact ⟨(0), (0), (by first | rfl | (simp; done) | (simp; exact (fun l_ : List UInt8 => (by cases l_ <;> rfl : l_.isEmpty = !(l_ != []))) _) | (simp [*]; done)), H', ⟨Nat.le_refl _⟩, ⟨by (with_reducible repeat (first | apply Kd.R_alloc | apply Kd.R_drewN | apply Kd.R_drew)); exact Kd.R_mono (Kd.R_far (p := ⟨gb108, 5, none⟩) (Kd.R_far (p := ⟨gb108, 4, none⟩) (Kd.R_far (p := ⟨gb108, 3, none⟩) (Kd.R_far (p := ⟨gb108, 2, none⟩) (Kd.R_far (p := ⟨gb108, 1, none⟩) (Kd.R_far (p := ⟨gb108, 0, none⟩) (Kd.R_types HO105.out BK108.out (by decide)) (fun _ hk => hk.2) (.int .i64 0)) (fun _ hk => hk.2) (.int .i64 0)) (fun _ hk => hk.2) (.int .i64 0)) (fun _ hk => hk.2) (.int .i64 0)) (fun _ hk => hk.2) (.string (⟨#[]⟩ : ByteArray))) (fun _ hk => hk.2) (.string (⟨#[]⟩ : ByteArray))) (fun _ hk => trivial)⟩, ⟨by (with_reducible repeat (first | refine blk_drewN ?_ _ | refine blk_drew ?_ | refine blk_alloc ?_ _)); refine blk_far ?_ NB102_108.out _; (with_reducible repeat (first | refine blk_drewN ?_ _ | refine blk_drew ?_ | refine blk_alloc ?_ _)); refine blk_far ?_ NB102_108.out _; (with_reducible repeat (first | refine blk_drewN ?_ _ | refine blk_drew ?_ | refine blk_alloc ?_ _)); refine blk_far ?_ NB102_108.out _; (with_reducible repeat (first | refine blk_drewN ?_ _ | refine blk_drew ?_ | refine blk_alloc ?_ _)); refine blk_far ?_ NB102_108.out _; (with_reducible repeat (first | refine blk_drewN ?_ _ | refine blk_drew ?_ | refine blk_alloc ?_ _)); refine blk_far ?_ NB102_108.out _; (with_reducible repeat (first | refine blk_drewN ?_ _ | refine blk_drew ?_ | refine blk_alloc ?_ _)); refine blk_far ?_ NB102_108.out _; (with_reducible repeat (first | refine blk_drewN ?_ _ | refine blk_drew ?_ | refine blk_alloc ?_ _)); exact BK102.out⟩, ⟨by (with_reducible repeat (first | refine blk_drewN ?_ _ | refine blk_drew ?_ | refine blk_alloc ?_ _)); refine blk_put (cs := #[.int .i64 0, .int .i64 0, .int .i64 0, .int .i64 0, .string (⟨#[]⟩ : ByteArray), .string (⟨#[]⟩ : ByteArray)]) ?_ 5 _ rfl; (with_reducible repeat (first | refine blk_drewN ?_ _ | refine blk_drew ?_ | refine blk_alloc ?_ _)); refine blk_put (cs := #[.int .i64 0, .int .i64 0, .int .i64 0, .int .i64 0, .string (⟨#[]⟩ : ByteArray), .string (⟨#[]⟩ : ByteArray)]) ?_ 4 _ rfl; (with_reducible repeat (first | refine blk_drewN ?_ _ | refine blk_drew ?_ | refine blk_alloc ?_ _)); refine blk_put (cs := #[.int .i64 0, .int .i64 0, .int .i64 0, .int .i64 0, .string (⟨#[]⟩ : ByteArray), .string (⟨#[]⟩ : ByteArray)]) ?_ 3 _ rfl; (with_reducible repeat (first | refine blk_drewN ?_ _ | refine blk_drew ?_ | refine blk_alloc ?_ _)); refine blk_put (cs := #[.int .i64 0, .int .i64 0, .int .i64 0, .int .i64 0, .string (⟨#[]⟩ : ByteArray), .string (⟨#[]⟩ : ByteArray)]) ?_ 2 _ rfl; (with_reducible repeat (first | refine blk_drewN ?_ _ | refine blk_drew ?_ | refine blk_alloc ?_ _)); refine blk_put (cs := #[.int .i64 0, .int .i64 0, .int .i64 0, .int .i64 0, .string (⟨#[]⟩ : ByteArray), .string (⟨#[]⟩ : ByteArray)]) ?_ 1 _ rfl; (with_reducible repeat (first | refine blk_drewN ?_ _ | refine blk_drew ?_ | refine blk_alloc ?_ _)); refine blk_put (cs := #[.int .i64 0, .int .i64 0, .int .i64 0, .int .i64 0, .string (⟨#[]⟩ : ByteArray), .string (⟨#[]⟩ : ByteArray)]) ?_ 0 _ rfl; (with_reducible repeat (first | refine blk_drewN ?_ _ | refine blk_drew ?_ | refine blk_alloc ?_ _)); exact BK108.out⟩, ⟨by repeat (first | (with_reducible first | exact HB.out | apply below_alloc | apply pw_below_drewN | apply below_drew1 | refine below_set ?_ GE102.out | refine below_set ?_ GE108.out) | exact HB.out)⟩⟩
  case round =>
   clear H'
   try clear c1
   try clear c2
   try clear c2b0
   try clear c2b1
   try clear p2
   try clear c10
   try clear c11
   try clear hcz11_0
   try clear hcz11_1
   try clear hcz11_2
   try clear hcz11_3
   try clear hcz11_4
   try clear hcz11_5
   try clear hcz4_0
   try clear hcz4_1
   try clear hcz4_2
   try clear hcz4_3
   try clear hcz4_4
   try clear hcz4_5
   try clear hfz11_0
   try clear hfz11_1
   try clear hfz11_2
   try clear hfz11_3
   try clear hfz11_4
   try clear hfz11_5
   try clear hfz4_0
   try clear hfz4_1
   try clear hfz4_2
   try clear hfz4_3
   try clear hfz4_4
   try clear hfz4_5
   obtain ⟨x8_1, x109000_1, rfl, HA, HK1, HO_4, BK102, BK108, HB⟩ := hrel
   cases gk with
   | zero => exact absurd HA.out (by simp [pannierref20_Decode.l0])
   | succ k1 =>
    have H := HA.out
    clear HA
    simp only [pannierref20_Decode.l0] at H
    by_cases c12 : x8_1 < (y103.length : Int)
    ·rw [if_pos c12] at H
     have c12b0 : decide (x8_1 < (y103.length : Int)) = true := decide_eq_true c12
     clear c12
     by_cases c13 : 0 ≤ x8_1
     ·rw [if_pos c13] at H
      have c13b0 : decide (0 ≤ x8_1) = true := decide_eq_true c13
      clear c13
      by_cases c14 : (rdOf ByteArray.empty y103 x8_1).toList = t106.toList
      ·rw [if_pos c14] at H
       have c14b0 : ((rdOf ByteArray.empty y103 x8_1).toList == t106.toList) = true := beq_iff_eq.mpr c14
       have c14b1 : ((rdOf ByteArray.empty y103 x8_1).toList != t106.toList) = false := bne_eq_false_iff_eq.mpr c14
       clear c14
       have H' := Aside0.mk H
       clear H
       obtain ⟨Ao15, co15, eo15⟩ := Kd.R_slice HO_4.out
       subst eo15
       have p109 : 0 ≤ (x8_1 : Int) := of_decide_eq_true (by first | (with_reducible assumption) | assumption)
       have q109 : x8_1 < (y103.length : Int) := of_decide_eq_true (by first | (with_reducible assumption) | assumption)
       obtain ⟨ad109, e109, hx109_0⟩ := Kd.at_string (Kd.R_reads' HO_4.out).2.2 x8_1 p109 q109
       cases e109
       replace p109 := eq_true p109
       replace q109 := eq_true q109
       have hnb16 := NB108_102.out
       have hnc16 := NB102_108.out
       have hcz17_0 : wr.cell? ⟨gb108, 0, none⟩ = some (.int .i64 x109000_1) := (blk_cell BK108.out 0).trans rfl
       have hcz17_1 : wr.cell? ⟨gb108, 1, none⟩ = some (.int .i64 0) := (blk_cell BK108.out 1).trans rfl
       have hcz17_2 : wr.cell? ⟨gb108, 2, none⟩ = some (.int .i64 0) := (blk_cell BK108.out 2).trans rfl
       have hcz17_3 : wr.cell? ⟨gb108, 3, none⟩ = some (.int .i64 0) := (blk_cell BK108.out 3).trans rfl
       have hcz17_4 : wr.cell? ⟨gb108, 4, none⟩ = some (.string (⟨#[]⟩ : ByteArray)) := (blk_cell BK108.out 4).trans rfl
       have hcz17_5 : wr.cell? ⟨gb108, 5, none⟩ = some (.string (⟨#[]⟩ : ByteArray)) := (blk_cell BK108.out 5).trans rfl
       have hfz17_0 := blk_frozen BK108.out 0
       have hfz17_1 := blk_frozen BK108.out 1
       have hfz17_2 := blk_frozen BK108.out 2
       have hfz17_3 := blk_frozen BK108.out 3
       have hfz17_4 := blk_frozen BK108.out 4
       have hfz17_5 := blk_frozen BK108.out 5
       go_wp2
       repeat (go_quiet (fail); try go_wp2)
       go_roundg k1
       case measure => have := HK1.out; omega
       case rel => exact ⟨(wrap64 (x8_1 + 1)), (wrap64 (x8_1 + 1)), (by first | rfl | (simp; done) | (simp; exact (fun l_ : List UInt8 => (by cases l_ <;> rfl : l_.isEmpty = !(l_ != []))) _) | (simp [*]; done)), H', ⟨by have := HK1.out; omega⟩, ⟨by (with_reducible repeat (first | apply Kd.R_alloc | apply Kd.R_drewN | apply Kd.R_drew)); exact Kd.R_mono (Kd.R_far (p := ⟨gb108, 0, none⟩) (Kd.R_types HO_4.out BK108.out (by decide)) (fun _ hk => hk.2) (.int .i64 (wrap64 (x8_1 + 1)))) (fun _ hk => trivial)⟩, ⟨by (with_reducible repeat (first | refine blk_drewN ?_ _ | refine blk_drew ?_ | refine blk_alloc ?_ _)); refine blk_far ?_ NB102_108.out _; (with_reducible repeat (first | refine blk_drewN ?_ _ | refine blk_drew ?_ | refine blk_alloc ?_ _)); exact BK102.out⟩, ⟨by (with_reducible repeat (first | refine blk_drewN ?_ _ | refine blk_drew ?_ | refine blk_alloc ?_ _)); refine blk_put (cs := #[.int .i64 x109000_1, .int .i64 0, .int .i64 0, .int .i64 0, .string (⟨#[]⟩ : ByteArray), .string (⟨#[]⟩ : ByteArray)]) ?_ 0 _ rfl; (with_reducible repeat (first | refine blk_drewN ?_ _ | refine blk_drew ?_ | refine blk_alloc ?_ _)); exact BK108.out⟩, ⟨by repeat (first | (with_reducible first | exact HB.out | apply below_alloc | apply pw_below_drewN | apply below_drew1 | refine below_set ?_ GE102.out | refine below_set ?_ GE108.out) | exact HB.out)⟩⟩
      ·rw [if_neg c14] at H
       have c14b0 : ((rdOf ByteArray.empty y103 x8_1).toList == t106.toList) = false := beq_eq_false_iff_ne.mpr c14
       have c14b1 : ((rdOf ByteArray.empty y103 x8_1).toList != t106.toList) = true := bne_iff_ne.mpr c14
       have H' := Aside0.mk H
       clear H
       obtain ⟨Ao18, co18, eo18⟩ := Kd.R_slice HO_4.out
       subst eo18
       have p109 : 0 ≤ (x8_1 : Int) := of_decide_eq_true (by first | (with_reducible assumption) | assumption)
       have q109 : x8_1 < (y103.length : Int) := of_decide_eq_true (by first | (with_reducible assumption) | assumption)
       obtain ⟨ad109, e109, hx109_0⟩ := Kd.at_string (Kd.R_reads' HO_4.out).2.2 x8_1 p109 q109
       cases e109
       replace p109 := eq_true p109
       replace q109 := eq_true q109
       go_wp2
       repeat (go_quiet (fail); try go_wp2)
       go_roundg k1
       case measure => have := HK1.out; omega
       case rel => exact ⟨(wrap64 (x8_1 + 1)), (x109000_1), (by first | rfl | (simp; done) | (simp; exact (fun l_ : List UInt8 => (by cases l_ <;> rfl : l_.isEmpty = !(l_ != []))) _) | (simp [*]; done)), H', ⟨by have := HK1.out; omega⟩, ⟨by (with_reducible repeat (first | apply Kd.R_alloc | apply Kd.R_drewN | apply Kd.R_drew)); exact HO_4.out⟩, ⟨by (with_reducible repeat (first | refine blk_drewN ?_ _ | refine blk_drew ?_ | refine blk_alloc ?_ _)); exact BK102.out⟩, ⟨by (with_reducible repeat (first | refine blk_drewN ?_ _ | refine blk_drew ?_ | refine blk_alloc ?_ _)); exact BK108.out⟩, ⟨by repeat (first | (with_reducible first | exact HB.out | apply below_alloc | apply pw_below_drewN | apply below_drew1 | refine below_set ?_ GE102.out | refine below_set ?_ GE108.out) | exact HB.out)⟩⟩
     ·rw [if_neg c13] at H
      exact absurd H (by simp)
    ·rw [if_neg c12] at H
     have c12b0 : decide (x8_1 < (y103.length : Int)) = false := decide_eq_false c12
     clear c12
     by_cases c19 : x109000_1 = 0
     ·rw [if_pos c19] at H
      have c19b0 : (x109000_1 == 0) = true := beq_iff_eq.mpr c19
      have c19b1 : (x109000_1 != 0) = false := bne_eq_false_iff_eq.mpr c19
      clear c19
      simp only [Option.some.injEq, Prod.mk.injEq] at H
      obtain ⟨rfl, rfl, rfl, rfl, rfl, rfl, rfl⟩ := H
      obtain ⟨Ao20, co20, eo20⟩ := Kd.R_slice HO_4.out
      subst eo20
      have hnb21 := NB108_102.out
      have hnc21 := NB102_108.out
      have hcz22_0 : wr.cell? ⟨gb108, 0, none⟩ = some (.int .i64 x109000_1) := (blk_cell BK108.out 0).trans rfl
      have hcz22_1 : wr.cell? ⟨gb108, 1, none⟩ = some (.int .i64 0) := (blk_cell BK108.out 1).trans rfl
      have hcz22_2 : wr.cell? ⟨gb108, 2, none⟩ = some (.int .i64 0) := (blk_cell BK108.out 2).trans rfl
      have hcz22_3 : wr.cell? ⟨gb108, 3, none⟩ = some (.int .i64 0) := (blk_cell BK108.out 3).trans rfl
      have hcz22_4 : wr.cell? ⟨gb108, 4, none⟩ = some (.string (⟨#[]⟩ : ByteArray)) := (blk_cell BK108.out 4).trans rfl
      have hcz22_5 : wr.cell? ⟨gb108, 5, none⟩ = some (.string (⟨#[]⟩ : ByteArray)) := (blk_cell BK108.out 5).trans rfl
      have hfz22_0 := blk_frozen BK108.out 0
      have hfz22_1 := blk_frozen BK108.out 1
      have hfz22_2 := blk_frozen BK108.out 2
      have hfz22_3 := blk_frozen BK108.out 3
      have hfz22_4 := blk_frozen BK108.out 4
      have hfz22_5 := blk_frozen BK108.out 5
      have hcz23_0 : wr.cell? ⟨gb102, 0, none⟩ = some (.int .i64 0) := (blk_cell BK102.out 0).trans rfl
      have hcz23_1 : wr.cell? ⟨gb102, 1, none⟩ = some (.int .i64 0) := (blk_cell BK102.out 1).trans rfl
      have hcz23_2 : wr.cell? ⟨gb102, 2, none⟩ = some (.int .i64 0) := (blk_cell BK102.out 2).trans rfl
      have hcz23_3 : wr.cell? ⟨gb102, 3, none⟩ = some (.int .i64 0) := (blk_cell BK102.out 3).trans rfl
      have hcz23_4 : wr.cell? ⟨gb102, 4, none⟩ = some (.string (⟨#[]⟩ : ByteArray)) := (blk_cell BK102.out 4).trans rfl
      have hcz23_5 : wr.cell? ⟨gb102, 5, none⟩ = some (.string (⟨#[]⟩ : ByteArray)) := (blk_cell BK102.out 5).trans rfl
      have hfz23_0 := blk_frozen BK102.out 0
      have hfz23_1 := blk_frozen BK102.out 1
      have hfz23_2 := blk_frozen BK102.out 2
      have hfz23_3 := blk_frozen BK102.out 3
      have hfz23_4 := blk_frozen BK102.out 4
      have hfz23_5 := blk_frozen BK102.out 5
      go_wp2
      repeat (go_quiet (fail); try go_wp2)
      refine bodyPost_ret (results_ct rfl _ _ gb102 30 #[.int .i64 0, .int .i64 0, .int .i64 0, .int .i64 0, .string (⟨#[]⟩ : ByteArray), .string (⟨#[]⟩ : ByteArray)] (0, 0) _ rfl (by (with_reducible repeat (first | refine blk_drewN ?_ _ | refine blk_drew ?_ | refine blk_alloc ?_ _)); refine blk_put (cs := #[.int .i64 0, .int .i64 0, .int .i64 0, .int .i64 0, .string (⟨#[]⟩ : ByteArray), .string (⟨#[]⟩ : ByteArray)]) ?_ 5 _ rfl; (with_reducible repeat (first | refine blk_drewN ?_ _ | refine blk_drew ?_ | refine blk_alloc ?_ _)); refine blk_put (cs := #[.int .i64 0, .int .i64 0, .int .i64 0, .int .i64 0, .string (⟨#[]⟩ : ByteArray), .string (⟨#[]⟩ : ByteArray)]) ?_ 4 _ rfl; (with_reducible repeat (first | refine blk_drewN ?_ _ | refine blk_drew ?_ | refine blk_alloc ?_ _)); refine blk_put (cs := #[.int .i64 0, .int .i64 0, .int .i64 0, .int .i64 0, .string (⟨#[]⟩ : ByteArray), .string (⟨#[]⟩ : ByteArray)]) ?_ 3 _ rfl; (with_reducible repeat (first | refine blk_drewN ?_ _ | refine blk_drew ?_ | refine blk_alloc ?_ _)); refine blk_put (cs := #[.int .i64 0, .int .i64 0, .int .i64 0, .int .i64 0, .string (⟨#[]⟩ : ByteArray), .string (⟨#[]⟩ : ByteArray)]) ?_ 2 _ rfl; (with_reducible repeat (first | refine blk_drewN ?_ _ | refine blk_drew ?_ | refine blk_alloc ?_ _)); refine blk_put (cs := #[.int .i64 0, .int .i64 0, .int .i64 0, .int .i64 0, .string (⟨#[]⟩ : ByteArray), .string (⟨#[]⟩ : ByteArray)]) ?_ 1 _ rfl; (with_reducible repeat (first | refine blk_drewN ?_ _ | refine blk_drew ?_ | refine blk_alloc ?_ _)); refine blk_put (cs := #[.int .i64 0, .int .i64 0, .int .i64 0, .int .i64 0, .string (⟨#[]⟩ : ByteArray), .string (⟨#[]⟩ : ByteArray)]) ?_ 0 _ rfl; (with_reducible repeat (first | refine blk_drewN ?_ _ | refine blk_drew ?_ | refine blk_alloc ?_ _)); exact BK102.out) Tryd.underlying30 rfl (by kernel_rfl)) rfl ?_
      exact ⟨by first | rfl | (simp [errW_none, errW_some] <;> rfl) | (simp [*, errW_none, errW_some] <;> rfl), by repeat (first | (with_reducible first | exact HB.out | apply below_alloc | apply pw_below_drewN | apply below_drew1 | refine below_set ?_ GE102.out | refine below_set ?_ GE108.out) | exact HB.out)⟩
     ·rw [if_neg c19] at H
      have c19b0 : (x109000_1 == 0) = false := beq_eq_false_iff_ne.mpr c19
      have c19b1 : (x109000_1 != 0) = true := bne_iff_ne.mpr c19
      have HC24 := Aside0.mk H
      clear H
      obtain ⟨Ao25, co25, eo25⟩ := Kd.R_slice HO_4.out
      subst eo25
      have hnb26 := NB108_102.out
      have hnc26 := NB102_108.out
      have hcz27_0 : wr.cell? ⟨gb108, 0, none⟩ = some (.int .i64 x109000_1) := (blk_cell BK108.out 0).trans rfl
      have hcz27_1 : wr.cell? ⟨gb108, 1, none⟩ = some (.int .i64 0) := (blk_cell BK108.out 1).trans rfl
      have hcz27_2 : wr.cell? ⟨gb108, 2, none⟩ = some (.int .i64 0) := (blk_cell BK108.out 2).trans rfl
      have hcz27_3 : wr.cell? ⟨gb108, 3, none⟩ = some (.int .i64 0) := (blk_cell BK108.out 3).trans rfl
      have hcz27_4 : wr.cell? ⟨gb108, 4, none⟩ = some (.string (⟨#[]⟩ : ByteArray)) := (blk_cell BK108.out 4).trans rfl
      have hcz27_5 : wr.cell? ⟨gb108, 5, none⟩ = some (.string (⟨#[]⟩ : ByteArray)) := (blk_cell BK108.out 5).trans rfl
      have hfz27_0 := blk_frozen BK108.out 0
      have hfz27_1 := blk_frozen BK108.out 1
      have hfz27_2 := blk_frozen BK108.out 2
      have hfz27_3 := blk_frozen BK108.out 3
      have hfz27_4 := blk_frozen BK108.out 4
      have hfz27_5 := blk_frozen BK108.out 5
      go_upto_if 53 with (fail)
      repeat (go_quiet (fail); go_upto_if 53 with (fail))
      go_cut [6] (fun v6 wc => ∃ (kq : Nat) (x6_23 : ByteArray) (x103000_23 : Int) (x103001_23 : Int) (x103002_23 : Int) (x103003_23 : Int) (x103004_23 : ByteArray) (x103005_23 : ByteArray) (x109001_23 : Int), v6 = .string x6_23 ∧ Aside0 (pannierref20_Decode.j1 kq x6_23 x109000_1 x109000_1 x109001_23 0 0 (⟨#[]⟩ : ByteArray) (⟨#[]⟩ : ByteArray) = some (r1, r2, r3, r4, r5, r6, r7)) ∧ Aside0 (kq ≤ k1) ∧ Aside0 (wc.heap[gb102]? = some (.cells #[.int .i64 x103000_23, .int .i64 x103001_23, .int .i64 x103002_23, .int .i64 x103003_23, .string x103004_23, .string x103005_23] 30 (0, 0))) ∧ Aside0 (wc.heap[gb108]? = some (.cells #[.int .i64 x109000_1, .int .i64 x109001_23, .int .i64 0, .int .i64 0, .string (⟨#[]⟩ : ByteArray), .string (⟨#[]⟩ : ByteArray)] 30 (0, 0))) ∧ Aside0 (Below w.heap.size w wc))
      case first =>
       have H := HC24.out
       clear HC24
       by_cases c28 : x109000_1 = 11
       ·rw [if_pos c28] at H
        have c28b0 : (x109000_1 == 11) = true := beq_iff_eq.mpr c28
        have c28b1 : (x109000_1 != 11) = false := bne_eq_false_iff_eq.mpr c28
        clear c28
        (first | rw [c28b0] | (simp only [i64_w, i32_w]; rw [c28b0]) | skip)
        have H' := Aside0.mk H
        clear H
        go_wp2
        repeat (go_quiet (fail); try go_wp2)
        go_meet
        case rel => exact ⟨_, (t107), (0), (0), (0), (0), ((⟨#[]⟩ : ByteArray)), ((⟨#[]⟩ : ByteArray)), (0), (by first | rfl | (simp; done) | (simp; exact (fun l_ : List UInt8 => (by cases l_ <;> rfl : l_.isEmpty = !(l_ != []))) _) | (simp [*]; done)), H', ⟨by have := HK1.out; first | omega | exact Nat.le_refl _⟩, ⟨by (with_reducible repeat (first | refine blk_drewN ?_ _ | refine blk_drew ?_ | refine blk_alloc ?_ _)); exact BK102.out⟩, ⟨by (with_reducible repeat (first | refine blk_drewN ?_ _ | refine blk_drew ?_ | refine blk_alloc ?_ _)); exact BK108.out⟩, ⟨by repeat (first | (with_reducible first | exact HB.out | apply below_alloc | apply pw_below_drewN | apply below_drew1 | refine below_set ?_ GE102.out | refine below_set ?_ GE108.out) | exact HB.out)⟩⟩
       ·rw [if_neg c28] at H
        have c28b0 : (x109000_1 == 11) = false := beq_eq_false_iff_ne.mpr c28
        have c28b1 : (x109000_1 != 11) = true := bne_iff_ne.mpr c28
        (first | rw [c28b0] | (simp only [i64_w, i32_w]; rw [c28b0]) | skip)
        replace H := Option.bind_eq_some_iff.mp H
        obtain ⟨⟨t110, t111⟩, A290, H⟩ := H
        replace H : ((pannierref20_number.f k1 t110).bind fun bt112 => (if bt112.2 = 0 then (pannierref20_Decode.j1 k1 t111 x109000_1 x109000_1 bt112.1 0 0 (⟨#[]⟩ : ByteArray) (⟨#[]⟩ : ByteArray)) else (some (0, 0, 0, 0, (⟨#[]⟩ : ByteArray), (⟨#[]⟩ : ByteArray), bt112.2)))) = some (r1, r2, r3, r4, r5, r6, r7) := H
        have A29 := Aside0.mk A290
        clear A290
        replace H := Option.bind_eq_some_iff.mp H
        obtain ⟨⟨t112, t113⟩, A300, H⟩ := H
        replace H : (if t113 = 0 then (pannierref20_Decode.j1 k1 t111 x109000_1 x109000_1 t112 0 0 (⟨#[]⟩ : ByteArray) (⟨#[]⟩ : ByteArray)) else (some (0, 0, 0, 0, (⟨#[]⟩ : ByteArray), (⟨#[]⟩ : ByteArray), t113))) = some (r1, r2, r3, r4, r5, r6, r7) := H
        have A30 := Aside0.mk A300
        clear A300
        by_cases c31 : t113 = 0
        ·rw [if_pos c31] at H
         have c31b0 : (t113 == 0) = true := beq_iff_eq.mpr c31
         have c31b1 : (t113 != 0) = false := bne_eq_false_iff_eq.mpr c31
         clear c31
         have H' := Aside0.mk H
         clear H
         go_wp2_with (first | (go_at_call 17; (with_reducible refine (pannierref20_cut.calls k1 t107 t110 t111 _ A29.out).mono ?_); rintro e w' ⟨rfl, ⟨nd, rfl⟩⟩; (try first | exact ⟨rfl, _, World.drewN_drewN _ _ _⟩ | exact ⟨rfl, _, Eq.trans (World.drewN_drewN _ _ _) (congrArg (World.drewN _) (Nat.add_assoc _ _ _))⟩)) | (go_at_call 18; (with_reducible refine (pannierref20_number.calls k1 t110 t112 t113 _ A30.out).mono ?_); rintro e w' ⟨rfl, ⟨nd, rfl⟩⟩; (try first | exact ⟨rfl, _, World.drewN_drewN _ _ _⟩ | exact ⟨rfl, _, Eq.trans (World.drewN_drewN _ _ _) (congrArg (World.drewN _) (Nat.add_assoc _ _ _))⟩); have hnb32 := NB108_102.out; have hnc32 := NB102_108.out; have hcz33_0 : wr.cell? ⟨gb108, 0, none⟩ = some (.int .i64 x109000_1) := (blk_cell BK108.out 0).trans rfl; have hcz33_1 : wr.cell? ⟨gb108, 1, none⟩ = some (.int .i64 0) := (blk_cell BK108.out 1).trans rfl; have hcz33_2 : wr.cell? ⟨gb108, 2, none⟩ = some (.int .i64 0) := (blk_cell BK108.out 2).trans rfl; have hcz33_3 : wr.cell? ⟨gb108, 3, none⟩ = some (.int .i64 0) := (blk_cell BK108.out 3).trans rfl; have hcz33_4 : wr.cell? ⟨gb108, 4, none⟩ = some (.string (⟨#[]⟩ : ByteArray)) := (blk_cell BK108.out 4).trans rfl; have hcz33_5 : wr.cell? ⟨gb108, 5, none⟩ = some (.string (⟨#[]⟩ : ByteArray)) := (blk_cell BK108.out 5).trans rfl; have hfz33_0 := blk_frozen BK108.out 0; have hfz33_1 := blk_frozen BK108.out 1; have hfz33_2 := blk_frozen BK108.out 2; have hfz33_3 := blk_frozen BK108.out 3; have hfz33_4 := blk_frozen BK108.out 4; have hfz33_5 := blk_frozen BK108.out 5))
         repeat (go_quiet (first | (go_at_call 17; (with_reducible refine (pannierref20_cut.calls k1 t107 t110 t111 _ A29.out).mono ?_); rintro e w' ⟨rfl, ⟨nd, rfl⟩⟩; (try first | exact ⟨rfl, _, World.drewN_drewN _ _ _⟩ | exact ⟨rfl, _, Eq.trans (World.drewN_drewN _ _ _) (congrArg (World.drewN _) (Nat.add_assoc _ _ _))⟩)) | (go_at_call 18; (with_reducible refine (pannierref20_number.calls k1 t110 t112 t113 _ A30.out).mono ?_); rintro e w' ⟨rfl, ⟨nd, rfl⟩⟩; (try first | exact ⟨rfl, _, World.drewN_drewN _ _ _⟩ | exact ⟨rfl, _, Eq.trans (World.drewN_drewN _ _ _) (congrArg (World.drewN _) (Nat.add_assoc _ _ _))⟩); have hnb32 := NB108_102.out; have hnc32 := NB102_108.out; have hcz33_0 : wr.cell? ⟨gb108, 0, none⟩ = some (.int .i64 x109000_1) := (blk_cell BK108.out 0).trans rfl; have hcz33_1 : wr.cell? ⟨gb108, 1, none⟩ = some (.int .i64 0) := (blk_cell BK108.out 1).trans rfl; have hcz33_2 : wr.cell? ⟨gb108, 2, none⟩ = some (.int .i64 0) := (blk_cell BK108.out 2).trans rfl; have hcz33_3 : wr.cell? ⟨gb108, 3, none⟩ = some (.int .i64 0) := (blk_cell BK108.out 3).trans rfl; have hcz33_4 : wr.cell? ⟨gb108, 4, none⟩ = some (.string (⟨#[]⟩ : ByteArray)) := (blk_cell BK108.out 4).trans rfl; have hcz33_5 : wr.cell? ⟨gb108, 5, none⟩ = some (.string (⟨#[]⟩ : ByteArray)) := (blk_cell BK108.out 5).trans rfl; have hfz33_0 := blk_frozen BK108.out 0; have hfz33_1 := blk_frozen BK108.out 1; have hfz33_2 := blk_frozen BK108.out 2; have hfz33_3 := blk_frozen BK108.out 3; have hfz33_4 := blk_frozen BK108.out 4; have hfz33_5 := blk_frozen BK108.out 5)); try go_wp2_with (first | (go_at_call 17; (with_reducible refine (pannierref20_cut.calls k1 t107 t110 t111 _ A29.out).mono ?_); rintro e w' ⟨rfl, ⟨nd, rfl⟩⟩; (try first | exact ⟨rfl, _, World.drewN_drewN _ _ _⟩ | exact ⟨rfl, _, Eq.trans (World.drewN_drewN _ _ _) (congrArg (World.drewN _) (Nat.add_assoc _ _ _))⟩)) | (go_at_call 18; (with_reducible refine (pannierref20_number.calls k1 t110 t112 t113 _ A30.out).mono ?_); rintro e w' ⟨rfl, ⟨nd, rfl⟩⟩; (try first | exact ⟨rfl, _, World.drewN_drewN _ _ _⟩ | exact ⟨rfl, _, Eq.trans (World.drewN_drewN _ _ _) (congrArg (World.drewN _) (Nat.add_assoc _ _ _))⟩); have hnb32 := NB108_102.out; have hnc32 := NB102_108.out; have hcz33_0 : wr.cell? ⟨gb108, 0, none⟩ = some (.int .i64 x109000_1) := (blk_cell BK108.out 0).trans rfl; have hcz33_1 : wr.cell? ⟨gb108, 1, none⟩ = some (.int .i64 0) := (blk_cell BK108.out 1).trans rfl; have hcz33_2 : wr.cell? ⟨gb108, 2, none⟩ = some (.int .i64 0) := (blk_cell BK108.out 2).trans rfl; have hcz33_3 : wr.cell? ⟨gb108, 3, none⟩ = some (.int .i64 0) := (blk_cell BK108.out 3).trans rfl; have hcz33_4 : wr.cell? ⟨gb108, 4, none⟩ = some (.string (⟨#[]⟩ : ByteArray)) := (blk_cell BK108.out 4).trans rfl; have hcz33_5 : wr.cell? ⟨gb108, 5, none⟩ = some (.string (⟨#[]⟩ : ByteArray)) := (blk_cell BK108.out 5).trans rfl; have hfz33_0 := blk_frozen BK108.out 0; have hfz33_1 := blk_frozen BK108.out 1; have hfz33_2 := blk_frozen BK108.out 2; have hfz33_3 := blk_frozen BK108.out 3; have hfz33_4 := blk_frozen BK108.out 4; have hfz33_5 := blk_frozen BK108.out 5)))
         go_meet
         case rel => exact ⟨_, (t111), (0), (0), (0), (0), ((⟨#[]⟩ : ByteArray)), ((⟨#[]⟩ : ByteArray)), (t112), (by first | rfl | (simp; done) | (simp; exact (fun l_ : List UInt8 => (by cases l_ <;> rfl : l_.isEmpty = !(l_ != []))) _) | (simp [*]; done)), H', ⟨by have := HK1.out; first | omega | exact Nat.le_refl _⟩, ⟨by (with_reducible repeat (first | refine blk_drewN ?_ _ | refine blk_drew ?_ | refine blk_alloc ?_ _)); refine blk_far ?_ NB102_108.out _; (with_reducible repeat (first | refine blk_drewN ?_ _ | refine blk_drew ?_ | refine blk_alloc ?_ _)); exact BK102.out⟩, ⟨by (with_reducible repeat (first | refine blk_drewN ?_ _ | refine blk_drew ?_ | refine blk_alloc ?_ _)); refine blk_put (cs := #[.int .i64 x109000_1, .int .i64 0, .int .i64 0, .int .i64 0, .string (⟨#[]⟩ : ByteArray), .string (⟨#[]⟩ : ByteArray)]) ?_ 1 _ rfl; (with_reducible repeat (first | refine blk_drewN ?_ _ | refine blk_drew ?_ | refine blk_alloc ?_ _)); exact BK108.out⟩, ⟨by repeat (first | (with_reducible first | exact HB.out | apply below_alloc | apply pw_below_drewN | apply below_drew1 | refine below_set ?_ GE102.out | refine below_set ?_ GE108.out) | exact HB.out)⟩⟩
        ·rw [if_neg c31] at H
         have c31b0 : (t113 == 0) = false := beq_eq_false_iff_ne.mpr c31
         have c31b1 : (t113 != 0) = true := bne_iff_ne.mpr c31
         simp only [Option.some.injEq, Prod.mk.injEq] at H
         obtain ⟨rfl, rfl, rfl, rfl, rfl, rfl, rfl⟩ := H
         go_wp2_with (first | (go_at_call 17; (with_reducible refine (pannierref20_cut.calls k1 t107 t110 t111 _ A29.out).mono ?_); rintro e w' ⟨rfl, ⟨nd, rfl⟩⟩; (try first | exact ⟨rfl, _, World.drewN_drewN _ _ _⟩ | exact ⟨rfl, _, Eq.trans (World.drewN_drewN _ _ _) (congrArg (World.drewN _) (Nat.add_assoc _ _ _))⟩)) | (go_at_call 18; (with_reducible refine (pannierref20_number.calls k1 t110 t112 t113 _ A30.out).mono ?_); rintro e w' ⟨rfl, ⟨nd, rfl⟩⟩; (try first | exact ⟨rfl, _, World.drewN_drewN _ _ _⟩ | exact ⟨rfl, _, Eq.trans (World.drewN_drewN _ _ _) (congrArg (World.drewN _) (Nat.add_assoc _ _ _))⟩); have hnb34 := NB108_102.out; have hnc34 := NB102_108.out; have hcz35_0 : wr.cell? ⟨gb108, 0, none⟩ = some (.int .i64 x109000_1) := (blk_cell BK108.out 0).trans rfl; have hcz35_1 : wr.cell? ⟨gb108, 1, none⟩ = some (.int .i64 0) := (blk_cell BK108.out 1).trans rfl; have hcz35_2 : wr.cell? ⟨gb108, 2, none⟩ = some (.int .i64 0) := (blk_cell BK108.out 2).trans rfl; have hcz35_3 : wr.cell? ⟨gb108, 3, none⟩ = some (.int .i64 0) := (blk_cell BK108.out 3).trans rfl; have hcz35_4 : wr.cell? ⟨gb108, 4, none⟩ = some (.string (⟨#[]⟩ : ByteArray)) := (blk_cell BK108.out 4).trans rfl; have hcz35_5 : wr.cell? ⟨gb108, 5, none⟩ = some (.string (⟨#[]⟩ : ByteArray)) := (blk_cell BK108.out 5).trans rfl; have hfz35_0 := blk_frozen BK108.out 0; have hfz35_1 := blk_frozen BK108.out 1; have hfz35_2 := blk_frozen BK108.out 2; have hfz35_3 := blk_frozen BK108.out 3; have hfz35_4 := blk_frozen BK108.out 4; have hfz35_5 := blk_frozen BK108.out 5; have hcz36_0 : wr.cell? ⟨gb102, 0, none⟩ = some (.int .i64 0) := (blk_cell BK102.out 0).trans rfl; have hcz36_1 : wr.cell? ⟨gb102, 1, none⟩ = some (.int .i64 0) := (blk_cell BK102.out 1).trans rfl; have hcz36_2 : wr.cell? ⟨gb102, 2, none⟩ = some (.int .i64 0) := (blk_cell BK102.out 2).trans rfl; have hcz36_3 : wr.cell? ⟨gb102, 3, none⟩ = some (.int .i64 0) := (blk_cell BK102.out 3).trans rfl; have hcz36_4 : wr.cell? ⟨gb102, 4, none⟩ = some (.string (⟨#[]⟩ : ByteArray)) := (blk_cell BK102.out 4).trans rfl; have hcz36_5 : wr.cell? ⟨gb102, 5, none⟩ = some (.string (⟨#[]⟩ : ByteArray)) := (blk_cell BK102.out 5).trans rfl; have hfz36_0 := blk_frozen BK102.out 0; have hfz36_1 := blk_frozen BK102.out 1; have hfz36_2 := blk_frozen BK102.out 2; have hfz36_3 := blk_frozen BK102.out 3; have hfz36_4 := blk_frozen BK102.out 4; have hfz36_5 := blk_frozen BK102.out 5))
         repeat (go_quiet (first | (go_at_call 17; (with_reducible refine (pannierref20_cut.calls k1 t107 t110 t111 _ A29.out).mono ?_); rintro e w' ⟨rfl, ⟨nd, rfl⟩⟩; (try first | exact ⟨rfl, _, World.drewN_drewN _ _ _⟩ | exact ⟨rfl, _, Eq.trans (World.drewN_drewN _ _ _) (congrArg (World.drewN _) (Nat.add_assoc _ _ _))⟩)) | (go_at_call 18; (with_reducible refine (pannierref20_number.calls k1 t110 t112 t113 _ A30.out).mono ?_); rintro e w' ⟨rfl, ⟨nd, rfl⟩⟩; (try first | exact ⟨rfl, _, World.drewN_drewN _ _ _⟩ | exact ⟨rfl, _, Eq.trans (World.drewN_drewN _ _ _) (congrArg (World.drewN _) (Nat.add_assoc _ _ _))⟩); have hnb34 := NB108_102.out; have hnc34 := NB102_108.out; have hcz35_0 : wr.cell? ⟨gb108, 0, none⟩ = some (.int .i64 x109000_1) := (blk_cell BK108.out 0).trans rfl; have hcz35_1 : wr.cell? ⟨gb108, 1, none⟩ = some (.int .i64 0) := (blk_cell BK108.out 1).trans rfl; have hcz35_2 : wr.cell? ⟨gb108, 2, none⟩ = some (.int .i64 0) := (blk_cell BK108.out 2).trans rfl; have hcz35_3 : wr.cell? ⟨gb108, 3, none⟩ = some (.int .i64 0) := (blk_cell BK108.out 3).trans rfl; have hcz35_4 : wr.cell? ⟨gb108, 4, none⟩ = some (.string (⟨#[]⟩ : ByteArray)) := (blk_cell BK108.out 4).trans rfl; have hcz35_5 : wr.cell? ⟨gb108, 5, none⟩ = some (.string (⟨#[]⟩ : ByteArray)) := (blk_cell BK108.out 5).trans rfl; have hfz35_0 := blk_frozen BK108.out 0; have hfz35_1 := blk_frozen BK108.out 1; have hfz35_2 := blk_frozen BK108.out 2; have hfz35_3 := blk_frozen BK108.out 3; have hfz35_4 := blk_frozen BK108.out 4; have hfz35_5 := blk_frozen BK108.out 5; have hcz36_0 : wr.cell? ⟨gb102, 0, none⟩ = some (.int .i64 0) := (blk_cell BK102.out 0).trans rfl; have hcz36_1 : wr.cell? ⟨gb102, 1, none⟩ = some (.int .i64 0) := (blk_cell BK102.out 1).trans rfl; have hcz36_2 : wr.cell? ⟨gb102, 2, none⟩ = some (.int .i64 0) := (blk_cell BK102.out 2).trans rfl; have hcz36_3 : wr.cell? ⟨gb102, 3, none⟩ = some (.int .i64 0) := (blk_cell BK102.out 3).trans rfl; have hcz36_4 : wr.cell? ⟨gb102, 4, none⟩ = some (.string (⟨#[]⟩ : ByteArray)) := (blk_cell BK102.out 4).trans rfl; have hcz36_5 : wr.cell? ⟨gb102, 5, none⟩ = some (.string (⟨#[]⟩ : ByteArray)) := (blk_cell BK102.out 5).trans rfl; have hfz36_0 := blk_frozen BK102.out 0; have hfz36_1 := blk_frozen BK102.out 1; have hfz36_2 := blk_frozen BK102.out 2; have hfz36_3 := blk_frozen BK102.out 3; have hfz36_4 := blk_frozen BK102.out 4; have hfz36_5 := blk_frozen BK102.out 5)); try go_wp2_with (first | (go_at_call 17; (with_reducible refine (pannierref20_cut.calls k1 t107 t110 t111 _ A29.out).mono ?_); rintro e w' ⟨rfl, ⟨nd, rfl⟩⟩; (try first | exact ⟨rfl, _, World.drewN_drewN _ _ _⟩ | exact ⟨rfl, _, Eq.trans (World.drewN_drewN _ _ _) (congrArg (World.drewN _) (Nat.add_assoc _ _ _))⟩)) | (go_at_call 18; (with_reducible refine (pannierref20_number.calls k1 t110 t112 t113 _ A30.out).mono ?_); rintro e w' ⟨rfl, ⟨nd, rfl⟩⟩; (try first | exact ⟨rfl, _, World.drewN_drewN _ _ _⟩ | exact ⟨rfl, _, Eq.trans (World.drewN_drewN _ _ _) (congrArg (World.drewN _) (Nat.add_assoc _ _ _))⟩); have hnb34 := NB108_102.out; have hnc34 := NB102_108.out; have hcz35_0 : wr.cell? ⟨gb108, 0, none⟩ = some (.int .i64 x109000_1) := (blk_cell BK108.out 0).trans rfl; have hcz35_1 : wr.cell? ⟨gb108, 1, none⟩ = some (.int .i64 0) := (blk_cell BK108.out 1).trans rfl; have hcz35_2 : wr.cell? ⟨gb108, 2, none⟩ = some (.int .i64 0) := (blk_cell BK108.out 2).trans rfl; have hcz35_3 : wr.cell? ⟨gb108, 3, none⟩ = some (.int .i64 0) := (blk_cell BK108.out 3).trans rfl; have hcz35_4 : wr.cell? ⟨gb108, 4, none⟩ = some (.string (⟨#[]⟩ : ByteArray)) := (blk_cell BK108.out 4).trans rfl; have hcz35_5 : wr.cell? ⟨gb108, 5, none⟩ = some (.string (⟨#[]⟩ : ByteArray)) := (blk_cell BK108.out 5).trans rfl; have hfz35_0 := blk_frozen BK108.out 0; have hfz35_1 := blk_frozen BK108.out 1; have hfz35_2 := blk_frozen BK108.out 2; have hfz35_3 := blk_frozen BK108.out 3; have hfz35_4 := blk_frozen BK108.out 4; have hfz35_5 := blk_frozen BK108.out 5; have hcz36_0 : wr.cell? ⟨gb102, 0, none⟩ = some (.int .i64 0) := (blk_cell BK102.out 0).trans rfl; have hcz36_1 : wr.cell? ⟨gb102, 1, none⟩ = some (.int .i64 0) := (blk_cell BK102.out 1).trans rfl; have hcz36_2 : wr.cell? ⟨gb102, 2, none⟩ = some (.int .i64 0) := (blk_cell BK102.out 2).trans rfl; have hcz36_3 : wr.cell? ⟨gb102, 3, none⟩ = some (.int .i64 0) := (blk_cell BK102.out 3).trans rfl; have hcz36_4 : wr.cell? ⟨gb102, 4, none⟩ = some (.string (⟨#[]⟩ : ByteArray)) := (blk_cell BK102.out 4).trans rfl; have hcz36_5 : wr.cell? ⟨gb102, 5, none⟩ = some (.string (⟨#[]⟩ : ByteArray)) := (blk_cell BK102.out 5).trans rfl; have hfz36_0 := blk_frozen BK102.out 0; have hfz36_1 := blk_frozen BK102.out 1; have hfz36_2 := blk_frozen BK102.out 2; have hfz36_3 := blk_frozen BK102.out 3; have hfz36_4 := blk_frozen BK102.out 4; have hfz36_5 := blk_frozen BK102.out 5)))
         refine bodyPost_ret (results_ct rfl _ _ gb102 30 #[.int .i64 0, .int .i64 0, .int .i64 0, .int .i64 0, .string (⟨#[]⟩ : ByteArray), .string (⟨#[]⟩ : ByteArray)] (0, 0) _ rfl (by (with_reducible repeat (first | refine blk_drewN ?_ _ | refine blk_drew ?_ | refine blk_alloc ?_ _)); refine blk_put (cs := #[.int .i64 0, .int .i64 0, .int .i64 0, .int .i64 0, .string (⟨#[]⟩ : ByteArray), .string (⟨#[]⟩ : ByteArray)]) ?_ 5 _ rfl; (with_reducible repeat (first | refine blk_drewN ?_ _ | refine blk_drew ?_ | refine blk_alloc ?_ _)); refine blk_put (cs := #[.int .i64 0, .int .i64 0, .int .i64 0, .int .i64 0, .string (⟨#[]⟩ : ByteArray), .string (⟨#[]⟩ : ByteArray)]) ?_ 4 _ rfl; (with_reducible repeat (first | refine blk_drewN ?_ _ | refine blk_drew ?_ | refine blk_alloc ?_ _)); refine blk_put (cs := #[.int .i64 0, .int .i64 0, .int .i64 0, .int .i64 0, .string (⟨#[]⟩ : ByteArray), .string (⟨#[]⟩ : ByteArray)]) ?_ 3 _ rfl; (with_reducible repeat (first | refine blk_drewN ?_ _ | refine blk_drew ?_ | refine blk_alloc ?_ _)); refine blk_put (cs := #[.int .i64 0, .int .i64 0, .int .i64 0, .int .i64 0, .string (⟨#[]⟩ : ByteArray), .string (⟨#[]⟩ : ByteArray)]) ?_ 2 _ rfl; (with_reducible repeat (first | refine blk_drewN ?_ _ | refine blk_drew ?_ | refine blk_alloc ?_ _)); refine blk_put (cs := #[.int .i64 0, .int .i64 0, .int .i64 0, .int .i64 0, .string (⟨#[]⟩ : ByteArray), .string (⟨#[]⟩ : ByteArray)]) ?_ 1 _ rfl; (with_reducible repeat (first | refine blk_drewN ?_ _ | refine blk_drew ?_ | refine blk_alloc ?_ _)); refine blk_put (cs := #[.int .i64 0, .int .i64 0, .int .i64 0, .int .i64 0, .string (⟨#[]⟩ : ByteArray), .string (⟨#[]⟩ : ByteArray)]) ?_ 0 _ rfl; (with_reducible repeat (first | refine blk_drewN ?_ _ | refine blk_drew ?_ | refine blk_alloc ?_ _)); refine blk_far ?_ NB102_108.out _; (with_reducible repeat (first | refine blk_drewN ?_ _ | refine blk_drew ?_ | refine blk_alloc ?_ _)); exact BK102.out) Tryd.underlying30 rfl (by kernel_rfl)) rfl ?_
         exact ⟨by first | rfl | (simp [errW_none, errW_some] <;> rfl) | (simp [*, errW_none, errW_some] <;> rfl), by repeat (first | (with_reducible first | exact HB.out | apply below_alloc | apply pw_below_drewN | apply below_drew1 | refine below_set ?_ GE102.out | refine below_set ?_ GE108.out) | exact HB.out)⟩
      case rest =>
       clear HC24
       try clear c1
       try clear p1
       try clear q1
       try clear hx1
       try clear c2
       try clear c2b0
       try clear c2b1
       try clear p2
       try clear c3
       try clear p6
       try clear c10
       try clear p10
       try clear q10
       try clear hx10
       try clear c11
       try clear c12
       try clear c12b0
       try clear c13
       try clear c13b0
       try clear c14
       try clear c14b0
       try clear c14b1
       try clear c16
       try clear c19
       try clear c19b0
       try clear c19b1
       try clear c21
       try clear c26
       try clear c28
       try clear c28b0
       try clear c28b1
       try clear c31
       try clear c31b0
       try clear c31b1
       try clear c32
       try clear c34
       try clear hcz11_0
       try clear hcz11_1
       try clear hcz11_2
       try clear hcz11_3
       try clear hcz11_4
       try clear hcz11_5
       try clear hcz17_0
       try clear hcz17_1
       try clear hcz17_2
       try clear hcz17_3
       try clear hcz17_4
       try clear hcz17_5
       try clear hcz22_0
       try clear hcz22_1
       try clear hcz22_2
       try clear hcz22_3
       try clear hcz22_4
       try clear hcz22_5
       try clear hcz23_0
       try clear hcz23_1
       try clear hcz23_2
       try clear hcz23_3
       try clear hcz23_4
       try clear hcz23_5
       try clear hcz27_0
       try clear hcz27_1
       try clear hcz27_2
       try clear hcz27_3
       try clear hcz27_4
       try clear hcz27_5
       try clear hcz33_0
       try clear hcz33_1
       try clear hcz33_2
       try clear hcz33_3
       try clear hcz33_4
       try clear hcz33_5
       try clear hcz35_0
       try clear hcz35_1
       try clear hcz35_2
       try clear hcz35_3
       try clear hcz35_4
       try clear hcz35_5
       try clear hcz36_0
       try clear hcz36_1
       try clear hcz36_2
       try clear hcz36_3
       try clear hcz36_4
       try clear hcz36_5
       try clear hcz4_0
       try clear hcz4_1
       try clear hcz4_2
       try clear hcz4_3
       try clear hcz4_4
       try clear hcz4_5
       try clear hfz11_0
       try clear hfz11_1
       try clear hfz11_2
       try clear hfz11_3
       try clear hfz11_4
       try clear hfz11_5
       try clear hfz17_0
       try clear hfz17_1
       try clear hfz17_2
       try clear hfz17_3
       try clear hfz17_4
       try clear hfz17_5
       try clear hfz22_0
       try clear hfz22_1
       try clear hfz22_2
       try clear hfz22_3
       try clear hfz22_4
       try clear hfz22_5
       try clear hfz23_0
       try clear hfz23_1
       try clear hfz23_2
       try clear hfz23_3
       try clear hfz23_4
       try clear hfz23_5
       try clear hfz27_0
       try clear hfz27_1
       try clear hfz27_2
       try clear hfz27_3
       try clear hfz27_4
       try clear hfz27_5
       try clear hfz33_0
       try clear hfz33_1
       try clear hfz33_2
       try clear hfz33_3
       try clear hfz33_4
       try clear hfz33_5
       try clear hfz35_0
       try clear hfz35_1
       try clear hfz35_2
       try clear hfz35_3
       try clear hfz35_4
       try clear hfz35_5
       try clear hfz36_0
       try clear hfz36_1
       try clear hfz36_2
       try clear hfz36_3
       try clear hfz36_4
       try clear hfz36_5
       try clear hfz4_0
       try clear hfz4_1
       try clear hfz4_2
       try clear hfz4_3
       try clear hfz4_4
       try clear hfz4_5
       try clear hx109_0
       try clear p109
       try clear p2
       try clear q109
       obtain ⟨kq, x6_23, x103000_23, x103001_23, x103002_23, x103003_23, x103004_23, x103005_23, x109001_23, rfl, HA, HJ23, BK102, BK108, HB⟩ := hcut
       cases kq with
       | zero => exact absurd HA.out (by simp [pannierref20_Decode.j1])
       | succ kj23 =>
        have H := HA.out
        clear HA
        simp only [pannierref20_Decode.j1] at H
        have HC37 := Aside0.mk H
        clear H
        go_upto_region 21 with (fail)
        repeat (go_quiet (fail); go_upto_region 21 with (fail))
        go_cut [87] (fun v87 wc => ∃ (kq : Nat) (x87_36 : Bool), v87 = .bool x87_36 ∧ Aside0 (pannierref20_Decode.j2 kq x6_23 x109000_1 x87_36 x109000_1 x109001_23 0 0 (⟨#[]⟩ : ByteArray) (⟨#[]⟩ : ByteArray) = some (r1, r2, r3, r4, r5, r6, r7)) ∧ Aside0 (kq ≤ kj23) ∧ Aside0 (wc.heap[gb102]? = some (.cells #[.int .i64 x103000_23, .int .i64 x103001_23, .int .i64 x103002_23, .int .i64 x103003_23, .string x103004_23, .string x103005_23] 30 (0, 0))) ∧ Aside0 (wc.heap[gb108]? = some (.cells #[.int .i64 x109000_1, .int .i64 x109001_23, .int .i64 0, .int .i64 0, .string (⟨#[]⟩ : ByteArray), .string (⟨#[]⟩ : ByteArray)] 30 (0, 0))) ∧ Aside0 (Below w.heap.size w wc))
        case first => as_aux_lemma =>
         have H := HC37.out
         clear HC37
         by_cases c38 : x109000_1 = 2
         ·rw [if_pos c38] at H
          have c38b0 : (x109000_1 == 2) = true := beq_iff_eq.mpr c38
          have c38b1 : (x109000_1 != 2) = false := bne_eq_false_iff_eq.mpr c38
          clear c38
          (first | rw [c38b0] | (simp only [i64_w, i32_w]; rw [c38b0]) | skip)
          have H' := Aside0.mk H
          clear H
          go_wp2
          repeat (go_quiet (fail); try go_wp2)
          go_meet
          case rel => exact ⟨_, (true), (by first | rfl | (simp; done) | (simp; exact (fun l_ : List UInt8 => (by cases l_ <;> rfl : l_.isEmpty = !(l_ != []))) _) | (simp [*]; done)), H', ⟨by have := HK1.out; have := HJ23.out; first | omega | exact Nat.le_refl _⟩, ⟨by (with_reducible repeat (first | refine blk_drewN ?_ _ | refine blk_drew ?_ | refine blk_alloc ?_ _)); exact BK102.out⟩, ⟨by (with_reducible repeat (first | refine blk_drewN ?_ _ | refine blk_drew ?_ | refine blk_alloc ?_ _)); exact BK108.out⟩, ⟨by repeat (first | (with_reducible first | exact HB.out | apply below_alloc | apply pw_below_drewN | apply below_drew1 | refine below_set ?_ GE102.out | refine below_set ?_ GE108.out) | exact HB.out)⟩⟩
         ·rw [if_neg c38] at H
          have c38b0 : (x109000_1 == 2) = false := beq_eq_false_iff_ne.mpr c38
          have c38b1 : (x109000_1 != 2) = true := bne_iff_ne.mpr c38
          (first | rw [c38b0] | (simp only [i64_w, i32_w]; rw [c38b0]) | skip)
          by_cases c39 : x109000_1 = 3
          ·rw [if_pos c39] at H
           have c39b0 : (x109000_1 == 3) = true := beq_iff_eq.mpr c39
           have c39b1 : (x109000_1 != 3) = false := bne_eq_false_iff_eq.mpr c39
           clear c39
           have H' := Aside0.mk H
           clear H
           go_wp2
           repeat (go_quiet (fail); try go_wp2)
           go_meet
           case rel => exact ⟨_, (true), (by first | rfl | (simp; done) | (simp; exact (fun l_ : List UInt8 => (by cases l_ <;> rfl : l_.isEmpty = !(l_ != []))) _) | (simp [*]; done)), H', ⟨by have := HK1.out; have := HJ23.out; first | omega | exact Nat.le_refl _⟩, ⟨by (with_reducible repeat (first | refine blk_drewN ?_ _ | refine blk_drew ?_ | refine blk_alloc ?_ _)); exact BK102.out⟩, ⟨by (with_reducible repeat (first | refine blk_drewN ?_ _ | refine blk_drew ?_ | refine blk_alloc ?_ _)); exact BK108.out⟩, ⟨by repeat (first | (with_reducible first | exact HB.out | apply below_alloc | apply pw_below_drewN | apply below_drew1 | refine below_set ?_ GE102.out | refine below_set ?_ GE108.out) | exact HB.out)⟩⟩
          ·rw [if_neg c39] at H
           have c39b0 : (x109000_1 == 3) = false := beq_eq_false_iff_ne.mpr c39
           have c39b1 : (x109000_1 != 3) = true := bne_iff_ne.mpr c39
           by_cases c40 : x109000_1 = 4
           ·rw [if_pos c40] at H
            have c40b0 : (x109000_1 == 4) = true := beq_iff_eq.mpr c40
            have c40b1 : (x109000_1 != 4) = false := bne_eq_false_iff_eq.mpr c40
            clear c40
            have H' := Aside0.mk H
            clear H
            go_wp2
            repeat (go_quiet (fail); try go_wp2)
            go_meet
            case rel => exact ⟨_, (true), (by first | rfl | (simp; done) | (simp; exact (fun l_ : List UInt8 => (by cases l_ <;> rfl : l_.isEmpty = !(l_ != []))) _) | (simp [*]; done)), H', ⟨by have := HK1.out; have := HJ23.out; first | omega | exact Nat.le_refl _⟩, ⟨by (with_reducible repeat (first | refine blk_drewN ?_ _ | refine blk_drew ?_ | refine blk_alloc ?_ _)); exact BK102.out⟩, ⟨by (with_reducible repeat (first | refine blk_drewN ?_ _ | refine blk_drew ?_ | refine blk_alloc ?_ _)); exact BK108.out⟩, ⟨by repeat (first | (with_reducible first | exact HB.out | apply below_alloc | apply pw_below_drewN | apply below_drew1 | refine below_set ?_ GE102.out | refine below_set ?_ GE108.out) | exact HB.out)⟩⟩
           ·rw [if_neg c40] at H
            have c40b0 : (x109000_1 == 4) = false := beq_eq_false_iff_ne.mpr c40
            have c40b1 : (x109000_1 != 4) = true := bne_iff_ne.mpr c40
            by_cases c41 : x109000_1 = 9
            ·rw [if_pos c41] at H
             have c41b0 : (x109000_1 == 9) = true := beq_iff_eq.mpr c41
             have c41b1 : (x109000_1 != 9) = false := bne_eq_false_iff_eq.mpr c41
             clear c41
             have H' := Aside0.mk H
             clear H
             go_wp2
             repeat (go_quiet (fail); try go_wp2)
             go_meet
             case rel => exact ⟨_, (true), (by first | rfl | (simp; done) | (simp; exact (fun l_ : List UInt8 => (by cases l_ <;> rfl : l_.isEmpty = !(l_ != []))) _) | (simp [*]; done)), H', ⟨by have := HK1.out; have := HJ23.out; first | omega | exact Nat.le_refl _⟩, ⟨by (with_reducible repeat (first | refine blk_drewN ?_ _ | refine blk_drew ?_ | refine blk_alloc ?_ _)); exact BK102.out⟩, ⟨by (with_reducible repeat (first | refine blk_drewN ?_ _ | refine blk_drew ?_ | refine blk_alloc ?_ _)); exact BK108.out⟩, ⟨by repeat (first | (with_reducible first | exact HB.out | apply below_alloc | apply pw_below_drewN | apply below_drew1 | refine below_set ?_ GE102.out | refine below_set ?_ GE108.out) | exact HB.out)⟩⟩
            ·rw [if_neg c41] at H
             have c41b0 : (x109000_1 == 9) = false := beq_eq_false_iff_ne.mpr c41
             have c41b1 : (x109000_1 != 9) = true := bne_iff_ne.mpr c41
             have H' := Aside0.mk H
             clear H
             go_wp2
             repeat (go_quiet (fail); try go_wp2)
             go_meet
             case rel => exact ⟨_, ((x109000_1 == 10)), (by first | rfl | (simp; done) | (simp; exact (fun l_ : List UInt8 => (by cases l_ <;> rfl : l_.isEmpty = !(l_ != []))) _) | (simp [*]; done)), H', ⟨by have := HK1.out; have := HJ23.out; first | omega | exact Nat.le_refl _⟩, ⟨by (with_reducible repeat (first | refine blk_drewN ?_ _ | refine blk_drew ?_ | refine blk_alloc ?_ _)); exact BK102.out⟩, ⟨by (with_reducible repeat (first | refine blk_drewN ?_ _ | refine blk_drew ?_ | refine blk_alloc ?_ _)); exact BK108.out⟩, ⟨by repeat (first | (with_reducible first | exact HB.out | apply below_alloc | apply pw_below_drewN | apply below_drew1 | refine below_set ?_ GE102.out | refine below_set ?_ GE108.out) | exact HB.out)⟩⟩
        case rest =>
         clear HC37
         try clear c1
         try clear p1
         try clear q1
         try clear hx1
         try clear c2
         try clear c2b0
         try clear c2b1
         try clear p2
         try clear c3
         try clear c4
         try clear p6
         try clear c10
         try clear p10
         try clear q10
         try clear hx10
         try clear c11
         try clear c12
         try clear c12b0
         try clear c13
         try clear c13b0
         try clear c14
         try clear c14b0
         try clear c14b1
         try clear c16
         try clear c19
         try clear c19b0
         try clear c19b1
         try clear c21
         try clear c26
         try clear c28
         try clear c28b0
         try clear c28b1
         try clear c31
         try clear c31b0
         try clear c31b1
         try clear c32
         try clear c34
         try clear c38
         try clear c38b0
         try clear c38b1
         try clear c39
         try clear c39b0
         try clear c39b1
         try clear c40
         try clear c40b0
         try clear c40b1
         try clear c41
         try clear c41b0
         try clear c41b1
         try clear hcz11_0
         try clear hcz11_1
         try clear hcz11_2
         try clear hcz11_3
         try clear hcz11_4
         try clear hcz11_5
         try clear hcz17_0
         try clear hcz17_1
         try clear hcz17_2
         try clear hcz17_3
         try clear hcz17_4
         try clear hcz17_5
         try clear hcz22_0
         try clear hcz22_1
         try clear hcz22_2
         try clear hcz22_3
         try clear hcz22_4
         try clear hcz22_5
         try clear hcz23_0
         try clear hcz23_1
         try clear hcz23_2
         try clear hcz23_3
         try clear hcz23_4
         try clear hcz23_5
         try clear hcz27_0
         try clear hcz27_1
         try clear hcz27_2
         try clear hcz27_3
         try clear hcz27_4
         try clear hcz27_5
         try clear hcz33_0
         try clear hcz33_1
         try clear hcz33_2
         try clear hcz33_3
         try clear hcz33_4
         try clear hcz33_5
         try clear hcz35_0
         try clear hcz35_1
         try clear hcz35_2
         try clear hcz35_3
         try clear hcz35_4
         try clear hcz35_5
         try clear hcz36_0
         try clear hcz36_1
         try clear hcz36_2
         try clear hcz36_3
         try clear hcz36_4
         try clear hcz36_5
         try clear hcz4_0
         try clear hcz4_1
         try clear hcz4_2
         try clear hcz4_3
         try clear hcz4_4
         try clear hcz4_5
         try clear hfz11_0
         try clear hfz11_1
         try clear hfz11_2
         try clear hfz11_3
         try clear hfz11_4
         try clear hfz11_5
         try clear hfz17_0
         try clear hfz17_1
         try clear hfz17_2
         try clear hfz17_3
         try clear hfz17_4
         try clear hfz17_5
         try clear hfz22_0
         try clear hfz22_1
         try clear hfz22_2
         try clear hfz22_3
         try clear hfz22_4
         try clear hfz22_5
         try clear hfz23_0
         try clear hfz23_1
         try clear hfz23_2
         try clear hfz23_3
         try clear hfz23_4
         try clear hfz23_5
         try clear hfz27_0
         try clear hfz27_1
         try clear hfz27_2
         try clear hfz27_3
         try clear hfz27_4
         try clear hfz27_5
         try clear hfz33_0
         try clear hfz33_1
         try clear hfz33_2
         try clear hfz33_3
         try clear hfz33_4
         try clear hfz33_5
         try clear hfz35_0
         try clear hfz35_1
         try clear hfz35_2
         try clear hfz35_3
         try clear hfz35_4
         try clear hfz35_5
         try clear hfz36_0
         try clear hfz36_1
         try clear hfz36_2
         try clear hfz36_3
         try clear hfz36_4
         try clear hfz36_5
         try clear hfz4_0
         try clear hfz4_1
         try clear hfz4_2
         try clear hfz4_3
         try clear hfz4_4
         try clear hfz4_5
         try clear hx109_0
         try clear p1
         try clear p10
         try clear p109
         try clear p2
         try clear p6
         try clear q1
         try clear q10
         try clear q109
         obtain ⟨kq, x87_36, rfl, HA, HJ36, BK102, BK108, HB⟩ := hcut
         cases kq with
         | zero => exact absurd HA.out (by simp [pannierref20_Decode.j2])
         | succ kj36 =>
          have H := HA.out
          clear HA
          simp only [pannierref20_Decode.j2] at H
          have HC42 := Aside0.mk H
          clear H
          go_upto_if 87 with (fail)
          repeat (go_quiet (fail); go_upto_if 87 with (fail))
          go_cut [6] (fun v6 wc => ∃ (kq : Nat) (x6_41 : ByteArray) (x103000_41 : Int) (x103001_41 : Int) (x103002_41 : Int) (x103003_41 : Int) (x103004_41 : ByteArray) (x103005_41 : ByteArray) (x109002_41 : Int), v6 = .string x6_41 ∧ Aside0 (pannierref20_Decode.j3 kq x6_41 x109000_1 x109000_1 x109001_23 x109002_41 0 (⟨#[]⟩ : ByteArray) (⟨#[]⟩ : ByteArray) = some (r1, r2, r3, r4, r5, r6, r7)) ∧ Aside0 (kq ≤ kj36) ∧ Aside0 (wc.heap[gb102]? = some (.cells #[.int .i64 x103000_41, .int .i64 x103001_41, .int .i64 x103002_41, .int .i64 x103003_41, .string x103004_41, .string x103005_41] 30 (0, 0))) ∧ Aside0 (wc.heap[gb108]? = some (.cells #[.int .i64 x109000_1, .int .i64 x109001_23, .int .i64 x109002_41, .int .i64 0, .string (⟨#[]⟩ : ByteArray), .string (⟨#[]⟩ : ByteArray)] 30 (0, 0))) ∧ Aside0 (Below w.heap.size w wc))
          case first =>
           have H := HC42.out
           clear HC42
           by_cases c43 : x87_36 = true
           ·subst c43
            have H1 : ((pannierref20_cut.f kj36 x6_23).bind fun bt114 => ((pannierref20_number.f kj36 bt114.1).bind fun bt116 => (if bt116.2 = 0 then (pannierref20_Decode.j3 kj36 bt114.2 x109000_1 x109000_1 x109001_23 bt116.1 0 (⟨#[]⟩ : ByteArray) (⟨#[]⟩ : ByteArray)) else (some (0, 0, 0, 0, (⟨#[]⟩ : ByteArray), (⟨#[]⟩ : ByteArray), bt116.2))))) = some (r1, r2, r3, r4, r5, r6, r7) := by rw [if_pos rfl] at H; exact H
            clear H
            have H := H1
            clear H1
            replace H := Option.bind_eq_some_iff.mp H
            obtain ⟨⟨t114, t115⟩, A440, H⟩ := H
            replace H : ((pannierref20_number.f kj36 t114).bind fun bt116 => (if bt116.2 = 0 then (pannierref20_Decode.j3 kj36 t115 x109000_1 x109000_1 x109001_23 bt116.1 0 (⟨#[]⟩ : ByteArray) (⟨#[]⟩ : ByteArray)) else (some (0, 0, 0, 0, (⟨#[]⟩ : ByteArray), (⟨#[]⟩ : ByteArray), bt116.2)))) = some (r1, r2, r3, r4, r5, r6, r7) := H
            have A44 := Aside0.mk A440
            clear A440
            replace H := Option.bind_eq_some_iff.mp H
            obtain ⟨⟨t116, t117⟩, A450, H⟩ := H
            replace H : (if t117 = 0 then (pannierref20_Decode.j3 kj36 t115 x109000_1 x109000_1 x109001_23 t116 0 (⟨#[]⟩ : ByteArray) (⟨#[]⟩ : ByteArray)) else (some (0, 0, 0, 0, (⟨#[]⟩ : ByteArray), (⟨#[]⟩ : ByteArray), t117))) = some (r1, r2, r3, r4, r5, r6, r7) := H
            have A45 := Aside0.mk A450
            clear A450
            by_cases c46 : t117 = 0
            ·rw [if_pos c46] at H
             have c46b0 : (t117 == 0) = true := beq_iff_eq.mpr c46
             have c46b1 : (t117 != 0) = false := bne_eq_false_iff_eq.mpr c46
             clear c46
             (first | rw [c46b0] | (simp only [i64_w, i32_w]; rw [c46b0]) | skip)
             have H' := Aside0.mk H
             clear H
             go_wp2_with (first | (go_at_call 17; (with_reducible refine (pannierref20_cut.calls kj36 x6_23 t114 t115 _ A44.out).mono ?_); rintro e w' ⟨rfl, ⟨nd, rfl⟩⟩; (try first | exact ⟨rfl, _, World.drewN_drewN _ _ _⟩ | exact ⟨rfl, _, Eq.trans (World.drewN_drewN _ _ _) (congrArg (World.drewN _) (Nat.add_assoc _ _ _))⟩)) | (go_at_call 18; (with_reducible refine (pannierref20_number.calls kj36 t114 t116 t117 _ A45.out).mono ?_); rintro e w' ⟨rfl, ⟨nd, rfl⟩⟩; (try first | exact ⟨rfl, _, World.drewN_drewN _ _ _⟩ | exact ⟨rfl, _, Eq.trans (World.drewN_drewN _ _ _) (congrArg (World.drewN _) (Nat.add_assoc _ _ _))⟩); have hnb47 := NB108_102.out; have hnc47 := NB102_108.out; have hcz48_0 : wc.cell? ⟨gb108, 0, none⟩ = some (.int .i64 x109000_1) := (blk_cell BK108.out 0).trans rfl; have hcz48_1 : wc.cell? ⟨gb108, 1, none⟩ = some (.int .i64 x109001_23) := (blk_cell BK108.out 1).trans rfl; have hcz48_2 : wc.cell? ⟨gb108, 2, none⟩ = some (.int .i64 0) := (blk_cell BK108.out 2).trans rfl; have hcz48_3 : wc.cell? ⟨gb108, 3, none⟩ = some (.int .i64 0) := (blk_cell BK108.out 3).trans rfl; have hcz48_4 : wc.cell? ⟨gb108, 4, none⟩ = some (.string (⟨#[]⟩ : ByteArray)) := (blk_cell BK108.out 4).trans rfl; have hcz48_5 : wc.cell? ⟨gb108, 5, none⟩ = some (.string (⟨#[]⟩ : ByteArray)) := (blk_cell BK108.out 5).trans rfl; have hfz48_0 := blk_frozen BK108.out 0; have hfz48_1 := blk_frozen BK108.out 1; have hfz48_2 := blk_frozen BK108.out 2; have hfz48_3 := blk_frozen BK108.out 3; have hfz48_4 := blk_frozen BK108.out 4; have hfz48_5 := blk_frozen BK108.out 5))
             repeat (go_quiet (first | (go_at_call 17; (with_reducible refine (pannierref20_cut.calls kj36 x6_23 t114 t115 _ A44.out).mono ?_); rintro e w' ⟨rfl, ⟨nd, rfl⟩⟩; (try first | exact ⟨rfl, _, World.drewN_drewN _ _ _⟩ | exact ⟨rfl, _, Eq.trans (World.drewN_drewN _ _ _) (congrArg (World.drewN _) (Nat.add_assoc _ _ _))⟩)) | (go_at_call 18; (with_reducible refine (pannierref20_number.calls kj36 t114 t116 t117 _ A45.out).mono ?_); rintro e w' ⟨rfl, ⟨nd, rfl⟩⟩; (try first | exact ⟨rfl, _, World.drewN_drewN _ _ _⟩ | exact ⟨rfl, _, Eq.trans (World.drewN_drewN _ _ _) (congrArg (World.drewN _) (Nat.add_assoc _ _ _))⟩); have hnb47 := NB108_102.out; have hnc47 := NB102_108.out; have hcz48_0 : wc.cell? ⟨gb108, 0, none⟩ = some (.int .i64 x109000_1) := (blk_cell BK108.out 0).trans rfl; have hcz48_1 : wc.cell? ⟨gb108, 1, none⟩ = some (.int .i64 x109001_23) := (blk_cell BK108.out 1).trans rfl; have hcz48_2 : wc.cell? ⟨gb108, 2, none⟩ = some (.int .i64 0) := (blk_cell BK108.out 2).trans rfl; have hcz48_3 : wc.cell? ⟨gb108, 3, none⟩ = some (.int .i64 0) := (blk_cell BK108.out 3).trans rfl; have hcz48_4 : wc.cell? ⟨gb108, 4, none⟩ = some (.string (⟨#[]⟩ : ByteArray)) := (blk_cell BK108.out 4).trans rfl; have hcz48_5 : wc.cell? ⟨gb108, 5, none⟩ = some (.string (⟨#[]⟩ : ByteArray)) := (blk_cell BK108.out 5).trans rfl; have hfz48_0 := blk_frozen BK108.out 0; have hfz48_1 := blk_frozen BK108.out 1; have hfz48_2 := blk_frozen BK108.out 2; have hfz48_3 := blk_frozen BK108.out 3; have hfz48_4 := blk_frozen BK108.out 4; have hfz48_5 := blk_frozen BK108.out 5)); try go_wp2_with (first | (go_at_call 17; (with_reducible refine (pannierref20_cut.calls kj36 x6_23 t114 t115 _ A44.out).mono ?_); rintro e w' ⟨rfl, ⟨nd, rfl⟩⟩; (try first | exact ⟨rfl, _, World.drewN_drewN _ _ _⟩ | exact ⟨rfl, _, Eq.trans (World.drewN_drewN _ _ _) (congrArg (World.drewN _) (Nat.add_assoc _ _ _))⟩)) | (go_at_call 18; (with_reducible refine (pannierref20_number.calls kj36 t114 t116 t117 _ A45.out).mono ?_); rintro e w' ⟨rfl, ⟨nd, rfl⟩⟩; (try first | exact ⟨rfl, _, World.drewN_drewN _ _ _⟩ | exact ⟨rfl, _, Eq.trans (World.drewN_drewN _ _ _) (congrArg (World.drewN _) (Nat.add_assoc _ _ _))⟩); have hnb47 := NB108_102.out; have hnc47 := NB102_108.out; have hcz48_0 : wc.cell? ⟨gb108, 0, none⟩ = some (.int .i64 x109000_1) := (blk_cell BK108.out 0).trans rfl; have hcz48_1 : wc.cell? ⟨gb108, 1, none⟩ = some (.int .i64 x109001_23) := (blk_cell BK108.out 1).trans rfl; have hcz48_2 : wc.cell? ⟨gb108, 2, none⟩ = some (.int .i64 0) := (blk_cell BK108.out 2).trans rfl; have hcz48_3 : wc.cell? ⟨gb108, 3, none⟩ = some (.int .i64 0) := (blk_cell BK108.out 3).trans rfl; have hcz48_4 : wc.cell? ⟨gb108, 4, none⟩ = some (.string (⟨#[]⟩ : ByteArray)) := (blk_cell BK108.out 4).trans rfl; have hcz48_5 : wc.cell? ⟨gb108, 5, none⟩ = some (.string (⟨#[]⟩ : ByteArray)) := (blk_cell BK108.out 5).trans rfl; have hfz48_0 := blk_frozen BK108.out 0; have hfz48_1 := blk_frozen BK108.out 1; have hfz48_2 := blk_frozen BK108.out 2; have hfz48_3 := blk_frozen BK108.out 3; have hfz48_4 := blk_frozen BK108.out 4; have hfz48_5 := blk_frozen BK108.out 5)))
             go_meet
             case rel => exact ⟨_, (t115), (x103000_23), (x103001_23), (x103002_23), (x103003_23), (x103004_23), (x103005_23), (t116), (by first | rfl | (simp; done) | (simp; exact (fun l_ : List UInt8 => (by cases l_ <;> rfl : l_.isEmpty = !(l_ != []))) _) | (simp [*]; done)), H', ⟨by have := HK1.out; have := HJ23.out; have := HJ36.out; first | omega | exact Nat.le_refl _⟩, ⟨by (with_reducible repeat (first | refine blk_drewN ?_ _ | refine blk_drew ?_ | refine blk_alloc ?_ _)); refine blk_far ?_ NB102_108.out _; (with_reducible repeat (first | refine blk_drewN ?_ _ | refine blk_drew ?_ | refine blk_alloc ?_ _)); exact BK102.out⟩, ⟨by (with_reducible repeat (first | refine blk_drewN ?_ _ | refine blk_drew ?_ | refine blk_alloc ?_ _)); refine blk_put (cs := #[.int .i64 x109000_1, .int .i64 x109001_23, .int .i64 0, .int .i64 0, .string (⟨#[]⟩ : ByteArray), .string (⟨#[]⟩ : ByteArray)]) ?_ 2 _ rfl; (with_reducible repeat (first | refine blk_drewN ?_ _ | refine blk_drew ?_ | refine blk_alloc ?_ _)); exact BK108.out⟩, ⟨by repeat (first | (with_reducible first | exact HB.out | apply below_alloc | apply pw_below_drewN | apply below_drew1 | refine below_set ?_ GE102.out | refine below_set ?_ GE108.out) | exact HB.out)⟩⟩
            ·rw [if_neg c46] at H
             have c46b0 : (t117 == 0) = false := beq_eq_false_iff_ne.mpr c46
             have c46b1 : (t117 != 0) = true := bne_iff_ne.mpr c46
             (first | rw [c46b0] | (simp only [i64_w, i32_w]; rw [c46b0]) | skip)
             simp only [Option.some.injEq, Prod.mk.injEq] at H
             obtain ⟨rfl, rfl, rfl, rfl, rfl, rfl, rfl⟩ := H
             go_wp2_with (first | (go_at_call 17; (with_reducible refine (pannierref20_cut.calls kj36 x6_23 t114 t115 _ A44.out).mono ?_); rintro e w' ⟨rfl, ⟨nd, rfl⟩⟩; (try first | exact ⟨rfl, _, World.drewN_drewN _ _ _⟩ | exact ⟨rfl, _, Eq.trans (World.drewN_drewN _ _ _) (congrArg (World.drewN _) (Nat.add_assoc _ _ _))⟩)) | (go_at_call 18; (with_reducible refine (pannierref20_number.calls kj36 t114 t116 t117 _ A45.out).mono ?_); rintro e w' ⟨rfl, ⟨nd, rfl⟩⟩; (try first | exact ⟨rfl, _, World.drewN_drewN _ _ _⟩ | exact ⟨rfl, _, Eq.trans (World.drewN_drewN _ _ _) (congrArg (World.drewN _) (Nat.add_assoc _ _ _))⟩); have hnb49 := NB108_102.out; have hnc49 := NB102_108.out; have hcz50_0 : wc.cell? ⟨gb108, 0, none⟩ = some (.int .i64 x109000_1) := (blk_cell BK108.out 0).trans rfl; have hcz50_1 : wc.cell? ⟨gb108, 1, none⟩ = some (.int .i64 x109001_23) := (blk_cell BK108.out 1).trans rfl; have hcz50_2 : wc.cell? ⟨gb108, 2, none⟩ = some (.int .i64 0) := (blk_cell BK108.out 2).trans rfl; have hcz50_3 : wc.cell? ⟨gb108, 3, none⟩ = some (.int .i64 0) := (blk_cell BK108.out 3).trans rfl; have hcz50_4 : wc.cell? ⟨gb108, 4, none⟩ = some (.string (⟨#[]⟩ : ByteArray)) := (blk_cell BK108.out 4).trans rfl; have hcz50_5 : wc.cell? ⟨gb108, 5, none⟩ = some (.string (⟨#[]⟩ : ByteArray)) := (blk_cell BK108.out 5).trans rfl; have hfz50_0 := blk_frozen BK108.out 0; have hfz50_1 := blk_frozen BK108.out 1; have hfz50_2 := blk_frozen BK108.out 2; have hfz50_3 := blk_frozen BK108.out 3; have hfz50_4 := blk_frozen BK108.out 4; have hfz50_5 := blk_frozen BK108.out 5; have hcz51_0 : wc.cell? ⟨gb102, 0, none⟩ = some (.int .i64 x103000_23) := (blk_cell BK102.out 0).trans rfl; have hcz51_1 : wc.cell? ⟨gb102, 1, none⟩ = some (.int .i64 x103001_23) := (blk_cell BK102.out 1).trans rfl; have hcz51_2 : wc.cell? ⟨gb102, 2, none⟩ = some (.int .i64 x103002_23) := (blk_cell BK102.out 2).trans rfl; have hcz51_3 : wc.cell? ⟨gb102, 3, none⟩ = some (.int .i64 x103003_23) := (blk_cell BK102.out 3).trans rfl; have hcz51_4 : wc.cell? ⟨gb102, 4, none⟩ = some (.string x103004_23) := (blk_cell BK102.out 4).trans rfl; have hcz51_5 : wc.cell? ⟨gb102, 5, none⟩ = some (.string x103005_23) := (blk_cell BK102.out 5).trans rfl; have hfz51_0 := blk_frozen BK102.out 0; have hfz51_1 := blk_frozen BK102.out 1; have hfz51_2 := blk_frozen BK102.out 2; have hfz51_3 := blk_frozen BK102.out 3; have hfz51_4 := blk_frozen BK102.out 4; have hfz51_5 := blk_frozen BK102.out 5))
             repeat (go_quiet (first | (go_at_call 17; (with_reducible refine (pannierref20_cut.calls kj36 x6_23 t114 t115 _ A44.out).mono ?_); rintro e w' ⟨rfl, ⟨nd, rfl⟩⟩; (try first | exact ⟨rfl, _, World.drewN_drewN _ _ _⟩ | exact ⟨rfl, _, Eq.trans (World.drewN_drewN _ _ _) (congrArg (World.drewN _) (Nat.add_assoc _ _ _))⟩)) | (go_at_call 18; (with_reducible refine (pannierref20_number.calls kj36 t114 t116 t117 _ A45.out).mono ?_); rintro e w' ⟨rfl, ⟨nd, rfl⟩⟩; (try first | exact ⟨rfl, _, World.drewN_drewN _ _ _⟩ | exact ⟨rfl, _, Eq.trans (World.drewN_drewN _ _ _) (congrArg (World.drewN _) (Nat.add_assoc _ _ _))⟩); have hnb49 := NB108_102.out; have hnc49 := NB102_108.out; have hcz50_0 : wc.cell? ⟨gb108, 0, none⟩ = some (.int .i64 x109000_1) := (blk_cell BK108.out 0).trans rfl; have hcz50_1 : wc.cell? ⟨gb108, 1, none⟩ = some (.int .i64 x109001_23) := (blk_cell BK108.out 1).trans rfl; have hcz50_2 : wc.cell? ⟨gb108, 2, none⟩ = some (.int .i64 0) := (blk_cell BK108.out 2).trans rfl; have hcz50_3 : wc.cell? ⟨gb108, 3, none⟩ = some (.int .i64 0) := (blk_cell BK108.out 3).trans rfl; have hcz50_4 : wc.cell? ⟨gb108, 4, none⟩ = some (.string (⟨#[]⟩ : ByteArray)) := (blk_cell BK108.out 4).trans rfl; have hcz50_5 : wc.cell? ⟨gb108, 5, none⟩ = some (.string (⟨#[]⟩ : ByteArray)) := (blk_cell BK108.out 5).trans rfl; have hfz50_0 := blk_frozen BK108.out 0; have hfz50_1 := blk_frozen BK108.out 1; have hfz50_2 := blk_frozen BK108.out 2; have hfz50_3 := blk_frozen BK108.out 3; have hfz50_4 := blk_frozen BK108.out 4; have hfz50_5 := blk_frozen BK108.out 5; have hcz51_0 : wc.cell? ⟨gb102, 0, none⟩ = some (.int .i64 x103000_23) := (blk_cell BK102.out 0).trans rfl; have hcz51_1 : wc.cell? ⟨gb102, 1, none⟩ = some (.int .i64 x103001_23) := (blk_cell BK102.out 1).trans rfl; have hcz51_2 : wc.cell? ⟨gb102, 2, none⟩ = some (.int .i64 x103002_23) := (blk_cell BK102.out 2).trans rfl; have hcz51_3 : wc.cell? ⟨gb102, 3, none⟩ = some (.int .i64 x103003_23) := (blk_cell BK102.out 3).trans rfl; have hcz51_4 : wc.cell? ⟨gb102, 4, none⟩ = some (.string x103004_23) := (blk_cell BK102.out 4).trans rfl; have hcz51_5 : wc.cell? ⟨gb102, 5, none⟩ = some (.string x103005_23) := (blk_cell BK102.out 5).trans rfl; have hfz51_0 := blk_frozen BK102.out 0; have hfz51_1 := blk_frozen BK102.out 1; have hfz51_2 := blk_frozen BK102.out 2; have hfz51_3 := blk_frozen BK102.out 3; have hfz51_4 := blk_frozen BK102.out 4; have hfz51_5 := blk_frozen BK102.out 5)); try go_wp2_with (first | (go_at_call 17; (with_reducible refine (pannierref20_cut.calls kj36 x6_23 t114 t115 _ A44.out).mono ?_); rintro e w' ⟨rfl, ⟨nd, rfl⟩⟩; (try first | exact ⟨rfl, _, World.drewN_drewN _ _ _⟩ | exact ⟨rfl, _, Eq.trans (World.drewN_drewN _ _ _) (congrArg (World.drewN _) (Nat.add_assoc _ _ _))⟩)) | (go_at_call 18; (with_reducible refine (pannierref20_number.calls kj36 t114 t116 t117 _ A45.out).mono ?_); rintro e w' ⟨rfl, ⟨nd, rfl⟩⟩; (try first | exact ⟨rfl, _, World.drewN_drewN _ _ _⟩ | exact ⟨rfl, _, Eq.trans (World.drewN_drewN _ _ _) (congrArg (World.drewN _) (Nat.add_assoc _ _ _))⟩); have hnb49 := NB108_102.out; have hnc49 := NB102_108.out; have hcz50_0 : wc.cell? ⟨gb108, 0, none⟩ = some (.int .i64 x109000_1) := (blk_cell BK108.out 0).trans rfl; have hcz50_1 : wc.cell? ⟨gb108, 1, none⟩ = some (.int .i64 x109001_23) := (blk_cell BK108.out 1).trans rfl; have hcz50_2 : wc.cell? ⟨gb108, 2, none⟩ = some (.int .i64 0) := (blk_cell BK108.out 2).trans rfl; have hcz50_3 : wc.cell? ⟨gb108, 3, none⟩ = some (.int .i64 0) := (blk_cell BK108.out 3).trans rfl; have hcz50_4 : wc.cell? ⟨gb108, 4, none⟩ = some (.string (⟨#[]⟩ : ByteArray)) := (blk_cell BK108.out 4).trans rfl; have hcz50_5 : wc.cell? ⟨gb108, 5, none⟩ = some (.string (⟨#[]⟩ : ByteArray)) := (blk_cell BK108.out 5).trans rfl; have hfz50_0 := blk_frozen BK108.out 0; have hfz50_1 := blk_frozen BK108.out 1; have hfz50_2 := blk_frozen BK108.out 2; have hfz50_3 := blk_frozen BK108.out 3; have hfz50_4 := blk_frozen BK108.out 4; have hfz50_5 := blk_frozen BK108.out 5; have hcz51_0 : wc.cell? ⟨gb102, 0, none⟩ = some (.int .i64 x103000_23) := (blk_cell BK102.out 0).trans rfl; have hcz51_1 : wc.cell? ⟨gb102, 1, none⟩ = some (.int .i64 x103001_23) := (blk_cell BK102.out 1).trans rfl; have hcz51_2 : wc.cell? ⟨gb102, 2, none⟩ = some (.int .i64 x103002_23) := (blk_cell BK102.out 2).trans rfl; have hcz51_3 : wc.cell? ⟨gb102, 3, none⟩ = some (.int .i64 x103003_23) := (blk_cell BK102.out 3).trans rfl; have hcz51_4 : wc.cell? ⟨gb102, 4, none⟩ = some (.string x103004_23) := (blk_cell BK102.out 4).trans rfl; have hcz51_5 : wc.cell? ⟨gb102, 5, none⟩ = some (.string x103005_23) := (blk_cell BK102.out 5).trans rfl; have hfz51_0 := blk_frozen BK102.out 0; have hfz51_1 := blk_frozen BK102.out 1; have hfz51_2 := blk_frozen BK102.out 2; have hfz51_3 := blk_frozen BK102.out 3; have hfz51_4 := blk_frozen BK102.out 4; have hfz51_5 := blk_frozen BK102.out 5)))
             refine bodyPost_ret (results_ct rfl _ _ gb102 30 #[.int .i64 0, .int .i64 0, .int .i64 0, .int .i64 0, .string (⟨#[]⟩ : ByteArray), .string (⟨#[]⟩ : ByteArray)] (0, 0) _ rfl (by (with_reducible repeat (first | refine blk_drewN ?_ _ | refine blk_drew ?_ | refine blk_alloc ?_ _)); refine blk_put (cs := #[.int .i64 0, .int .i64 0, .int .i64 0, .int .i64 0, .string (⟨#[]⟩ : ByteArray), .string x103005_23]) ?_ 5 _ rfl; (with_reducible repeat (first | refine blk_drewN ?_ _ | refine blk_drew ?_ | refine blk_alloc ?_ _)); refine blk_put (cs := #[.int .i64 0, .int .i64 0, .int .i64 0, .int .i64 0, .string x103004_23, .string x103005_23]) ?_ 4 _ rfl; (with_reducible repeat (first | refine blk_drewN ?_ _ | refine blk_drew ?_ | refine blk_alloc ?_ _)); refine blk_put (cs := #[.int .i64 0, .int .i64 0, .int .i64 0, .int .i64 x103003_23, .string x103004_23, .string x103005_23]) ?_ 3 _ rfl; (with_reducible repeat (first | refine blk_drewN ?_ _ | refine blk_drew ?_ | refine blk_alloc ?_ _)); refine blk_put (cs := #[.int .i64 0, .int .i64 0, .int .i64 x103002_23, .int .i64 x103003_23, .string x103004_23, .string x103005_23]) ?_ 2 _ rfl; (with_reducible repeat (first | refine blk_drewN ?_ _ | refine blk_drew ?_ | refine blk_alloc ?_ _)); refine blk_put (cs := #[.int .i64 0, .int .i64 x103001_23, .int .i64 x103002_23, .int .i64 x103003_23, .string x103004_23, .string x103005_23]) ?_ 1 _ rfl; (with_reducible repeat (first | refine blk_drewN ?_ _ | refine blk_drew ?_ | refine blk_alloc ?_ _)); refine blk_put (cs := #[.int .i64 x103000_23, .int .i64 x103001_23, .int .i64 x103002_23, .int .i64 x103003_23, .string x103004_23, .string x103005_23]) ?_ 0 _ rfl; (with_reducible repeat (first | refine blk_drewN ?_ _ | refine blk_drew ?_ | refine blk_alloc ?_ _)); refine blk_far ?_ NB102_108.out _; (with_reducible repeat (first | refine blk_drewN ?_ _ | refine blk_drew ?_ | refine blk_alloc ?_ _)); exact BK102.out) Tryd.underlying30 rfl (by kernel_rfl)) rfl ?_
             exact ⟨by first | rfl | (simp [errW_none, errW_some] <;> rfl) | (simp [*, errW_none, errW_some] <;> rfl), by repeat (first | (with_reducible first | exact HB.out | apply below_alloc | apply pw_below_drewN | apply below_drew1 | refine below_set ?_ GE102.out | refine below_set ?_ GE108.out) | exact HB.out)⟩
           ·replace c43 := Bool.eq_false_iff.mpr c43
            subst c43
            have H1 : (pannierref20_Decode.j3 kj36 x6_23 x109000_1 x109000_1 x109001_23 0 0 (⟨#[]⟩ : ByteArray) (⟨#[]⟩ : ByteArray)) = some (r1, r2, r3, r4, r5, r6, r7) := by rw [if_neg (show ¬ (false = true) by decide)] at H; exact H
            clear H
            have H := H1
            clear H1
            have H' := Aside0.mk H
            clear H
            go_wp2
            repeat (go_quiet (fail); try go_wp2)
            go_meet
            case rel => exact ⟨_, (x6_23), (x103000_23), (x103001_23), (x103002_23), (x103003_23), (x103004_23), (x103005_23), (0), (by first | rfl | (simp; done) | (simp; exact (fun l_ : List UInt8 => (by cases l_ <;> rfl : l_.isEmpty = !(l_ != []))) _) | (simp [*]; done)), H', ⟨by have := HK1.out; have := HJ23.out; have := HJ36.out; first | omega | exact Nat.le_refl _⟩, ⟨by (with_reducible repeat (first | refine blk_drewN ?_ _ | refine blk_drew ?_ | refine blk_alloc ?_ _)); exact BK102.out⟩, ⟨by (with_reducible repeat (first | refine blk_drewN ?_ _ | refine blk_drew ?_ | refine blk_alloc ?_ _)); exact BK108.out⟩, ⟨by repeat (first | (with_reducible first | exact HB.out | apply below_alloc | apply pw_below_drewN | apply below_drew1 | refine below_set ?_ GE102.out | refine below_set ?_ GE108.out) | exact HB.out)⟩⟩
          case rest =>
           clear HC42
           try clear c1
           try clear p1
           try clear q1
           try clear hx1
           try clear c2
           try clear c2b0
           try clear c2b1
           try clear p2
           try clear c3
           try clear c4
           try clear p6
           try clear c10
           try clear p10
           try clear q10
           try clear hx10
           try clear c11
           try clear c12
           try clear c12b0
           try clear c13
           try clear c13b0
           try clear c14
           try clear c14b0
           try clear c14b1
           try clear c16
           try clear c19
           try clear c19b0
           try clear c19b1
           try clear c21
           try clear c26
           try clear c28
           try clear c28b0
           try clear c28b1
           try clear c31
           try clear c31b0
           try clear c31b1
           try clear c32
           try clear c34
           try clear c38
           try clear c38b0
           try clear c38b1
           try clear c39
           try clear c39b0
           try clear c39b1
           try clear c40
           try clear c40b0
           try clear c40b1
           try clear c41
           try clear c41b0
           try clear c41b1
           try clear c43
           try clear c46
           try clear c46b0
           try clear c46b1
           try clear c47
           try clear c49
           try clear hcz11_0
           try clear hcz11_1
           try clear hcz11_2
           try clear hcz11_3
           try clear hcz11_4
           try clear hcz11_5
           try clear hcz17_0
           try clear hcz17_1
           try clear hcz17_2
           try clear hcz17_3
           try clear hcz17_4
           try clear hcz17_5
           try clear hcz22_0
           try clear hcz22_1
           try clear hcz22_2
           try clear hcz22_3
           try clear hcz22_4
           try clear hcz22_5
           try clear hcz23_0
           try clear hcz23_1
           try clear hcz23_2
           try clear hcz23_3
           try clear hcz23_4
           try clear hcz23_5
           try clear hcz27_0
           try clear hcz27_1
           try clear hcz27_2
           try clear hcz27_3
           try clear hcz27_4
           try clear hcz27_5
           try clear hcz33_0
           try clear hcz33_1
           try clear hcz33_2
           try clear hcz33_3
           try clear hcz33_4
           try clear hcz33_5
           try clear hcz35_0
           try clear hcz35_1
           try clear hcz35_2
           try clear hcz35_3
           try clear hcz35_4
           try clear hcz35_5
           try clear hcz36_0
           try clear hcz36_1
           try clear hcz36_2
           try clear hcz36_3
           try clear hcz36_4
           try clear hcz36_5
           try clear hcz48_0
           try clear hcz48_1
           try clear hcz48_2
           try clear hcz48_3
           try clear hcz48_4
           try clear hcz48_5
           try clear hcz4_0
           try clear hcz4_1
           try clear hcz4_2
           try clear hcz4_3
           try clear hcz4_4
           try clear hcz4_5
           try clear hcz50_0
           try clear hcz50_1
           try clear hcz50_2
           try clear hcz50_3
           try clear hcz50_4
           try clear hcz50_5
           try clear hcz51_0
           try clear hcz51_1
           try clear hcz51_2
           try clear hcz51_3
           try clear hcz51_4
           try clear hcz51_5
           try clear hfz11_0
           try clear hfz11_1
           try clear hfz11_2
           try clear hfz11_3
           try clear hfz11_4
           try clear hfz11_5
           try clear hfz17_0
           try clear hfz17_1
           try clear hfz17_2
           try clear hfz17_3
           try clear hfz17_4
           try clear hfz17_5
           try clear hfz22_0
           try clear hfz22_1
           try clear hfz22_2
           try clear hfz22_3
           try clear hfz22_4
           try clear hfz22_5
           try clear hfz23_0
           try clear hfz23_1
           try clear hfz23_2
           try clear hfz23_3
           try clear hfz23_4
           try clear hfz23_5
           try clear hfz27_0
           try clear hfz27_1
           try clear hfz27_2
           try clear hfz27_3
           try clear hfz27_4
           try clear hfz27_5
           try clear hfz33_0
           try clear hfz33_1
           try clear hfz33_2
           try clear hfz33_3
           try clear hfz33_4
           try clear hfz33_5
           try clear hfz35_0
           try clear hfz35_1
           try clear hfz35_2
           try clear hfz35_3
           try clear hfz35_4
           try clear hfz35_5
           try clear hfz36_0
           try clear hfz36_1
           try clear hfz36_2
           try clear hfz36_3
           try clear hfz36_4
           try clear hfz36_5
           try clear hfz48_0
           try clear hfz48_1
           try clear hfz48_2
           try clear hfz48_3
           try clear hfz48_4
           try clear hfz48_5
           try clear hfz4_0
           try clear hfz4_1
           try clear hfz4_2
           try clear hfz4_3
           try clear hfz4_4
           try clear hfz4_5
           try clear hfz50_0
           try clear hfz50_1
           try clear hfz50_2
           try clear hfz50_3
           try clear hfz50_4
           try clear hfz50_5
           try clear hfz51_0
           try clear hfz51_1
           try clear hfz51_2
           try clear hfz51_3
           try clear hfz51_4
           try clear hfz51_5
           try clear hx109_0
           try clear p1
           try clear p10
           try clear p109
           try clear p2
           try clear p6
           try clear q1
           try clear q10
           try clear q109
           obtain ⟨kq, x6_41, x103000_41, x103001_41, x103002_41, x103003_41, x103004_41, x103005_41, x109002_41, rfl, HA, HJ41, BK102, BK108, HB⟩ := hcut
           cases kq with
           | zero => exact absurd HA.out (by simp [pannierref20_Decode.j3])
           | succ kj41 =>
            have H := HA.out
            clear HA
            simp only [pannierref20_Decode.j3] at H
            have HC52 := Aside0.mk H
            clear H
            go_upto_region 27 with (fail)
            repeat (go_quiet (fail); go_upto_region 27 with (fail))
            go_cut [109] (fun v109 wc => ∃ (kq : Nat) (x109_51 : Bool), v109 = .bool x109_51 ∧ Aside0 (pannierref20_Decode.j4 kq x6_41 x109000_1 x109_51 x109000_1 x109001_23 x109002_41 0 (⟨#[]⟩ : ByteArray) (⟨#[]⟩ : ByteArray) = some (r1, r2, r3, r4, r5, r6, r7)) ∧ Aside0 (kq ≤ kj41) ∧ Aside0 (wc.heap[gb102]? = some (.cells #[.int .i64 x103000_41, .int .i64 x103001_41, .int .i64 x103002_41, .int .i64 x103003_41, .string x103004_41, .string x103005_41] 30 (0, 0))) ∧ Aside0 (wc.heap[gb108]? = some (.cells #[.int .i64 x109000_1, .int .i64 x109001_23, .int .i64 x109002_41, .int .i64 0, .string (⟨#[]⟩ : ByteArray), .string (⟨#[]⟩ : ByteArray)] 30 (0, 0))) ∧ Aside0 (Below w.heap.size w wc))
            case first => as_aux_lemma =>
             have H := HC52.out
             clear HC52
             by_cases c53 : x109000_1 = 9
             ·rw [if_pos c53] at H
              have c53b0 : (x109000_1 == 9) = true := beq_iff_eq.mpr c53
              have c53b1 : (x109000_1 != 9) = false := bne_eq_false_iff_eq.mpr c53
              clear c53
              (first | rw [c53b0] | (simp only [i64_w, i32_w]; rw [c53b0]) | skip)
              have H' := Aside0.mk H
              clear H
              go_wp2
              repeat (go_quiet (fail); try go_wp2)
              go_meet
              case rel => exact ⟨_, (true), (by first | rfl | (simp; done) | (simp; exact (fun l_ : List UInt8 => (by cases l_ <;> rfl : l_.isEmpty = !(l_ != []))) _) | (simp [*]; done)), H', ⟨by have := HK1.out; have := HJ23.out; have := HJ36.out; have := HJ41.out; first | omega | exact Nat.le_refl _⟩, ⟨by (with_reducible repeat (first | refine blk_drewN ?_ _ | refine blk_drew ?_ | refine blk_alloc ?_ _)); exact BK102.out⟩, ⟨by (with_reducible repeat (first | refine blk_drewN ?_ _ | refine blk_drew ?_ | refine blk_alloc ?_ _)); exact BK108.out⟩, ⟨by repeat (first | (with_reducible first | exact HB.out | apply below_alloc | apply pw_below_drewN | apply below_drew1 | refine below_set ?_ GE102.out | refine below_set ?_ GE108.out) | exact HB.out)⟩⟩
             ·rw [if_neg c53] at H
              have c53b0 : (x109000_1 == 9) = false := beq_eq_false_iff_ne.mpr c53
              have c53b1 : (x109000_1 != 9) = true := bne_iff_ne.mpr c53
              (first | rw [c53b0] | (simp only [i64_w, i32_w]; rw [c53b0]) | skip)
              have H' := Aside0.mk H
              clear H
              go_wp2
              repeat (go_quiet (fail); try go_wp2)
              go_meet
              case rel => exact ⟨_, ((x109000_1 == 11)), (by first | rfl | (simp; done) | (simp; exact (fun l_ : List UInt8 => (by cases l_ <;> rfl : l_.isEmpty = !(l_ != []))) _) | (simp [*]; done)), H', ⟨by have := HK1.out; have := HJ23.out; have := HJ36.out; have := HJ41.out; first | omega | exact Nat.le_refl _⟩, ⟨by (with_reducible repeat (first | refine blk_drewN ?_ _ | refine blk_drew ?_ | refine blk_alloc ?_ _)); exact BK102.out⟩, ⟨by (with_reducible repeat (first | refine blk_drewN ?_ _ | refine blk_drew ?_ | refine blk_alloc ?_ _)); exact BK108.out⟩, ⟨by repeat (first | (with_reducible first | exact HB.out | apply below_alloc | apply pw_below_drewN | apply below_drew1 | refine below_set ?_ GE102.out | refine below_set ?_ GE108.out) | exact HB.out)⟩⟩
            case rest =>
             clear HC52
             try clear c1
             try clear p1
             try clear q1
             try clear hx1
             try clear c2
             try clear c2b0
             try clear c2b1
             try clear p2
             try clear c3
             try clear c4
             try clear c5
             try clear p6
             try clear c10
             try clear p10
             try clear q10
             try clear hx10
             try clear c11
             try clear c12
             try clear c12b0
             try clear c13
             try clear c13b0
             try clear c14
             try clear c14b0
             try clear c14b1
             try clear c16
             try clear c19
             try clear c19b0
             try clear c19b1
             try clear c21
             try clear c26
             try clear c28
             try clear c28b0
             try clear c28b1
             try clear c31
             try clear c31b0
             try clear c31b1
             try clear c32
             try clear c34
             try clear c38
             try clear c38b0
             try clear c38b1
             try clear c39
             try clear c39b0
             try clear c39b1
             try clear c40
             try clear c40b0
             try clear c40b1
             try clear c41
             try clear c41b0
             try clear c41b1
             try clear c43
             try clear c46
             try clear c46b0
             try clear c46b1
             try clear c47
             try clear c49
             try clear c53
             try clear c53b0
             try clear c53b1
             try clear hcz11_0
             try clear hcz11_1
             try clear hcz11_2
             try clear hcz11_3
             try clear hcz11_4
             try clear hcz11_5
             try clear hcz17_0
             try clear hcz17_1
             try clear hcz17_2
             try clear hcz17_3
             try clear hcz17_4
             try clear hcz17_5
             try clear hcz22_0
             try clear hcz22_1
             try clear hcz22_2
             try clear hcz22_3
             try clear hcz22_4
             try clear hcz22_5
             try clear hcz23_0
             try clear hcz23_1
             try clear hcz23_2
             try clear hcz23_3
             try clear hcz23_4
             try clear hcz23_5
             try clear hcz27_0
             try clear hcz27_1
             try clear hcz27_2
             try clear hcz27_3
             try clear hcz27_4
             try clear hcz27_5
             try clear hcz33_0
             try clear hcz33_1
             try clear hcz33_2
             try clear hcz33_3
             try clear hcz33_4
             try clear hcz33_5
             try clear hcz35_0
             try clear hcz35_1
             try clear hcz35_2
             try clear hcz35_3
             try clear hcz35_4
             try clear hcz35_5
             try clear hcz36_0
             try clear hcz36_1
             try clear hcz36_2
             try clear hcz36_3
             try clear hcz36_4
             try clear hcz36_5
             try clear hcz48_0
             try clear hcz48_1
             try clear hcz48_2
             try clear hcz48_3
             try clear hcz48_4
             try clear hcz48_5
             try clear hcz4_0
             try clear hcz4_1
             try clear hcz4_2
             try clear hcz4_3
             try clear hcz4_4
             try clear hcz4_5
             try clear hcz50_0
             try clear hcz50_1
             try clear hcz50_2
             try clear hcz50_3
             try clear hcz50_4
             try clear hcz50_5
             try clear hcz51_0
             try clear hcz51_1
             try clear hcz51_2
             try clear hcz51_3
             try clear hcz51_4
             try clear hcz51_5
             try clear hfz11_0
             try clear hfz11_1
             try clear hfz11_2
             try clear hfz11_3
             try clear hfz11_4
             try clear hfz11_5
             try clear hfz17_0
             try clear hfz17_1
             try clear hfz17_2
             try clear hfz17_3
             try clear hfz17_4
             try clear hfz17_5
             try clear hfz22_0
             try clear hfz22_1
             try clear hfz22_2
             try clear hfz22_3
             try clear hfz22_4
             try clear hfz22_5
             try clear hfz23_0
             try clear hfz23_1
             try clear hfz23_2
             try clear hfz23_3
             try clear hfz23_4
             try clear hfz23_5
             try clear hfz27_0
             try clear hfz27_1
             try clear hfz27_2
             try clear hfz27_3
             try clear hfz27_4
             try clear hfz27_5
             try clear hfz33_0
             try clear hfz33_1
             try clear hfz33_2
             try clear hfz33_3
             try clear hfz33_4
             try clear hfz33_5
             try clear hfz35_0
             try clear hfz35_1
             try clear hfz35_2
             try clear hfz35_3
             try clear hfz35_4
             try clear hfz35_5
             try clear hfz36_0
             try clear hfz36_1
             try clear hfz36_2
             try clear hfz36_3
             try clear hfz36_4
             try clear hfz36_5
             try clear hfz48_0
             try clear hfz48_1
             try clear hfz48_2
             try clear hfz48_3
             try clear hfz48_4
             try clear hfz48_5
             try clear hfz4_0
             try clear hfz4_1
             try clear hfz4_2
             try clear hfz4_3
             try clear hfz4_4
             try clear hfz4_5
             try clear hfz50_0
             try clear hfz50_1
             try clear hfz50_2
             try clear hfz50_3
             try clear hfz50_4
             try clear hfz50_5
             try clear hfz51_0
             try clear hfz51_1
             try clear hfz51_2
             try clear hfz51_3
             try clear hfz51_4
             try clear hfz51_5
             try clear hx109_0
             try clear p1
             try clear p10
             try clear p109
             try clear p2
             try clear p6
             try clear q1
             try clear q10
             try clear q109
             obtain ⟨kq, x109_51, rfl, HA, HJ51, BK102, BK108, HB⟩ := hcut
             cases kq with
             | zero => exact absurd HA.out (by simp [pannierref20_Decode.j4])
             | succ kj51 =>
              have H := HA.out
              clear HA
              simp only [pannierref20_Decode.j4] at H
              have HC54 := Aside0.mk H
              clear H
              go_upto_if 109 with (fail)
              repeat (go_quiet (fail); go_upto_if 109 with (fail))
              go_cut [6] (fun v6 wc => ∃ (kq : Nat) (x6_53 : ByteArray) (x103000_53 : Int) (x103001_53 : Int) (x103002_53 : Int) (x103003_53 : Int) (x103004_53 : ByteArray) (x103005_53 : ByteArray) (x109003_53 : Int), v6 = .string x6_53 ∧ Aside0 (pannierref20_Decode.j5 kq x6_53 x109000_1 x109000_1 x109001_23 x109002_41 x109003_53 (⟨#[]⟩ : ByteArray) (⟨#[]⟩ : ByteArray) = some (r1, r2, r3, r4, r5, r6, r7)) ∧ Aside0 (kq ≤ kj51) ∧ Aside0 (wc.heap[gb102]? = some (.cells #[.int .i64 x103000_53, .int .i64 x103001_53, .int .i64 x103002_53, .int .i64 x103003_53, .string x103004_53, .string x103005_53] 30 (0, 0))) ∧ Aside0 (wc.heap[gb108]? = some (.cells #[.int .i64 x109000_1, .int .i64 x109001_23, .int .i64 x109002_41, .int .i64 x109003_53, .string (⟨#[]⟩ : ByteArray), .string (⟨#[]⟩ : ByteArray)] 30 (0, 0))) ∧ Aside0 (Below w.heap.size w wc))
              case first =>
               have H := HC54.out
               clear HC54
               by_cases c55 : x109_51 = true
               ·subst c55
                have H1 : ((pannierref20_cut.f kj51 x6_41).bind fun bt118 => ((pannierref20_number.f kj51 bt118.1).bind fun bt120 => (if bt120.2 = 0 then (pannierref20_Decode.j5 kj51 bt118.2 x109000_1 x109000_1 x109001_23 x109002_41 bt120.1 (⟨#[]⟩ : ByteArray) (⟨#[]⟩ : ByteArray)) else (some (0, 0, 0, 0, (⟨#[]⟩ : ByteArray), (⟨#[]⟩ : ByteArray), bt120.2))))) = some (r1, r2, r3, r4, r5, r6, r7) := by rw [if_pos rfl] at H; exact H
                clear H
                have H := H1
                clear H1
                replace H := Option.bind_eq_some_iff.mp H
                obtain ⟨⟨t118, t119⟩, A560, H⟩ := H
                replace H : ((pannierref20_number.f kj51 t118).bind fun bt120 => (if bt120.2 = 0 then (pannierref20_Decode.j5 kj51 t119 x109000_1 x109000_1 x109001_23 x109002_41 bt120.1 (⟨#[]⟩ : ByteArray) (⟨#[]⟩ : ByteArray)) else (some (0, 0, 0, 0, (⟨#[]⟩ : ByteArray), (⟨#[]⟩ : ByteArray), bt120.2)))) = some (r1, r2, r3, r4, r5, r6, r7) := H
                have A56 := Aside0.mk A560
                clear A560
                replace H := Option.bind_eq_some_iff.mp H
                obtain ⟨⟨t120, t121⟩, A570, H⟩ := H
                replace H : (if t121 = 0 then (pannierref20_Decode.j5 kj51 t119 x109000_1 x109000_1 x109001_23 x109002_41 t120 (⟨#[]⟩ : ByteArray) (⟨#[]⟩ : ByteArray)) else (some (0, 0, 0, 0, (⟨#[]⟩ : ByteArray), (⟨#[]⟩ : ByteArray), t121))) = some (r1, r2, r3, r4, r5, r6, r7) := H
                have A57 := Aside0.mk A570
                clear A570
                by_cases c58 : t121 = 0
                ·rw [if_pos c58] at H
                 have c58b0 : (t121 == 0) = true := beq_iff_eq.mpr c58
                 have c58b1 : (t121 != 0) = false := bne_eq_false_iff_eq.mpr c58
                 clear c58
                 (first | rw [c58b0] | (simp only [i64_w, i32_w]; rw [c58b0]) | skip)
                 have H' := Aside0.mk H
                 clear H
                 go_wp2_with (first | (go_at_call 17; (with_reducible refine (pannierref20_cut.calls kj51 x6_41 t118 t119 _ A56.out).mono ?_); rintro e w' ⟨rfl, ⟨nd, rfl⟩⟩; (try first | exact ⟨rfl, _, World.drewN_drewN _ _ _⟩ | exact ⟨rfl, _, Eq.trans (World.drewN_drewN _ _ _) (congrArg (World.drewN _) (Nat.add_assoc _ _ _))⟩)) | (go_at_call 18; (with_reducible refine (pannierref20_number.calls kj51 t118 t120 t121 _ A57.out).mono ?_); rintro e w' ⟨rfl, ⟨nd, rfl⟩⟩; (try first | exact ⟨rfl, _, World.drewN_drewN _ _ _⟩ | exact ⟨rfl, _, Eq.trans (World.drewN_drewN _ _ _) (congrArg (World.drewN _) (Nat.add_assoc _ _ _))⟩); have hnb59 := NB108_102.out; have hnc59 := NB102_108.out; have hcz60_0 : wc.cell? ⟨gb108, 0, none⟩ = some (.int .i64 x109000_1) := (blk_cell BK108.out 0).trans rfl; have hcz60_1 : wc.cell? ⟨gb108, 1, none⟩ = some (.int .i64 x109001_23) := (blk_cell BK108.out 1).trans rfl; have hcz60_2 : wc.cell? ⟨gb108, 2, none⟩ = some (.int .i64 x109002_41) := (blk_cell BK108.out 2).trans rfl; have hcz60_3 : wc.cell? ⟨gb108, 3, none⟩ = some (.int .i64 0) := (blk_cell BK108.out 3).trans rfl; have hcz60_4 : wc.cell? ⟨gb108, 4, none⟩ = some (.string (⟨#[]⟩ : ByteArray)) := (blk_cell BK108.out 4).trans rfl; have hcz60_5 : wc.cell? ⟨gb108, 5, none⟩ = some (.string (⟨#[]⟩ : ByteArray)) := (blk_cell BK108.out 5).trans rfl; have hfz60_0 := blk_frozen BK108.out 0; have hfz60_1 := blk_frozen BK108.out 1; have hfz60_2 := blk_frozen BK108.out 2; have hfz60_3 := blk_frozen BK108.out 3; have hfz60_4 := blk_frozen BK108.out 4; have hfz60_5 := blk_frozen BK108.out 5))
                 repeat (go_quiet (first | (go_at_call 17; (with_reducible refine (pannierref20_cut.calls kj51 x6_41 t118 t119 _ A56.out).mono ?_); rintro e w' ⟨rfl, ⟨nd, rfl⟩⟩; (try first | exact ⟨rfl, _, World.drewN_drewN _ _ _⟩ | exact ⟨rfl, _, Eq.trans (World.drewN_drewN _ _ _) (congrArg (World.drewN _) (Nat.add_assoc _ _ _))⟩)) | (go_at_call 18; (with_reducible refine (pannierref20_number.calls kj51 t118 t120 t121 _ A57.out).mono ?_); rintro e w' ⟨rfl, ⟨nd, rfl⟩⟩; (try first | exact ⟨rfl, _, World.drewN_drewN _ _ _⟩ | exact ⟨rfl, _, Eq.trans (World.drewN_drewN _ _ _) (congrArg (World.drewN _) (Nat.add_assoc _ _ _))⟩); have hnb59 := NB108_102.out; have hnc59 := NB102_108.out; have hcz60_0 : wc.cell? ⟨gb108, 0, none⟩ = some (.int .i64 x109000_1) := (blk_cell BK108.out 0).trans rfl; have hcz60_1 : wc.cell? ⟨gb108, 1, none⟩ = some (.int .i64 x109001_23) := (blk_cell BK108.out 1).trans rfl; have hcz60_2 : wc.cell? ⟨gb108, 2, none⟩ = some (.int .i64 x109002_41) := (blk_cell BK108.out 2).trans rfl; have hcz60_3 : wc.cell? ⟨gb108, 3, none⟩ = some (.int .i64 0) := (blk_cell BK108.out 3).trans rfl; have hcz60_4 : wc.cell? ⟨gb108, 4, none⟩ = some (.string (⟨#[]⟩ : ByteArray)) := (blk_cell BK108.out 4).trans rfl; have hcz60_5 : wc.cell? ⟨gb108, 5, none⟩ = some (.string (⟨#[]⟩ : ByteArray)) := (blk_cell BK108.out 5).trans rfl; have hfz60_0 := blk_frozen BK108.out 0; have hfz60_1 := blk_frozen BK108.out 1; have hfz60_2 := blk_frozen BK108.out 2; have hfz60_3 := blk_frozen BK108.out 3; have hfz60_4 := blk_frozen BK108.out 4; have hfz60_5 := blk_frozen BK108.out 5)); try go_wp2_with (first | (go_at_call 17; (with_reducible refine (pannierref20_cut.calls kj51 x6_41 t118 t119 _ A56.out).mono ?_); rintro e w' ⟨rfl, ⟨nd, rfl⟩⟩; (try first | exact ⟨rfl, _, World.drewN_drewN _ _ _⟩ | exact ⟨rfl, _, Eq.trans (World.drewN_drewN _ _ _) (congrArg (World.drewN _) (Nat.add_assoc _ _ _))⟩)) | (go_at_call 18; (with_reducible refine (pannierref20_number.calls kj51 t118 t120 t121 _ A57.out).mono ?_); rintro e w' ⟨rfl, ⟨nd, rfl⟩⟩; (try first | exact ⟨rfl, _, World.drewN_drewN _ _ _⟩ | exact ⟨rfl, _, Eq.trans (World.drewN_drewN _ _ _) (congrArg (World.drewN _) (Nat.add_assoc _ _ _))⟩); have hnb59 := NB108_102.out; have hnc59 := NB102_108.out; have hcz60_0 : wc.cell? ⟨gb108, 0, none⟩ = some (.int .i64 x109000_1) := (blk_cell BK108.out 0).trans rfl; have hcz60_1 : wc.cell? ⟨gb108, 1, none⟩ = some (.int .i64 x109001_23) := (blk_cell BK108.out 1).trans rfl; have hcz60_2 : wc.cell? ⟨gb108, 2, none⟩ = some (.int .i64 x109002_41) := (blk_cell BK108.out 2).trans rfl; have hcz60_3 : wc.cell? ⟨gb108, 3, none⟩ = some (.int .i64 0) := (blk_cell BK108.out 3).trans rfl; have hcz60_4 : wc.cell? ⟨gb108, 4, none⟩ = some (.string (⟨#[]⟩ : ByteArray)) := (blk_cell BK108.out 4).trans rfl; have hcz60_5 : wc.cell? ⟨gb108, 5, none⟩ = some (.string (⟨#[]⟩ : ByteArray)) := (blk_cell BK108.out 5).trans rfl; have hfz60_0 := blk_frozen BK108.out 0; have hfz60_1 := blk_frozen BK108.out 1; have hfz60_2 := blk_frozen BK108.out 2; have hfz60_3 := blk_frozen BK108.out 3; have hfz60_4 := blk_frozen BK108.out 4; have hfz60_5 := blk_frozen BK108.out 5)))
                 go_meet
                 case rel => exact ⟨_, (t119), (x103000_41), (x103001_41), (x103002_41), (x103003_41), (x103004_41), (x103005_41), (t120), (by first | rfl | (simp; done) | (simp; exact (fun l_ : List UInt8 => (by cases l_ <;> rfl : l_.isEmpty = !(l_ != []))) _) | (simp [*]; done)), H', ⟨by have := HK1.out; have := HJ23.out; have := HJ36.out; have := HJ41.out; have := HJ51.out; first | omega | exact Nat.le_refl _⟩, ⟨by (with_reducible repeat (first | refine blk_drewN ?_ _ | refine blk_drew ?_ | refine blk_alloc ?_ _)); refine blk_far ?_ NB102_108.out _; (with_reducible repeat (first | refine blk_drewN ?_ _ | refine blk_drew ?_ | refine blk_alloc ?_ _)); exact BK102.out⟩, ⟨by (with_reducible repeat (first | refine blk_drewN ?_ _ | refine blk_drew ?_ | refine blk_alloc ?_ _)); refine blk_put (cs := #[.int .i64 x109000_1, .int .i64 x109001_23, .int .i64 x109002_41, .int .i64 0, .string (⟨#[]⟩ : ByteArray), .string (⟨#[]⟩ : ByteArray)]) ?_ 3 _ rfl; (with_reducible repeat (first | refine blk_drewN ?_ _ | refine blk_drew ?_ | refine blk_alloc ?_ _)); exact BK108.out⟩, ⟨by repeat (first | (with_reducible first | exact HB.out | apply below_alloc | apply pw_below_drewN | apply below_drew1 | refine below_set ?_ GE102.out | refine below_set ?_ GE108.out) | exact HB.out)⟩⟩
                ·rw [if_neg c58] at H
                 have c58b0 : (t121 == 0) = false := beq_eq_false_iff_ne.mpr c58
                 have c58b1 : (t121 != 0) = true := bne_iff_ne.mpr c58
                 (first | rw [c58b0] | (simp only [i64_w, i32_w]; rw [c58b0]) | skip)
                 simp only [Option.some.injEq, Prod.mk.injEq] at H
                 obtain ⟨rfl, rfl, rfl, rfl, rfl, rfl, rfl⟩ := H
                 go_wp2_with (first | (go_at_call 17; (with_reducible refine (pannierref20_cut.calls kj51 x6_41 t118 t119 _ A56.out).mono ?_); rintro e w' ⟨rfl, ⟨nd, rfl⟩⟩; (try first | exact ⟨rfl, _, World.drewN_drewN _ _ _⟩ | exact ⟨rfl, _, Eq.trans (World.drewN_drewN _ _ _) (congrArg (World.drewN _) (Nat.add_assoc _ _ _))⟩)) | (go_at_call 18; (with_reducible refine (pannierref20_number.calls kj51 t118 t120 t121 _ A57.out).mono ?_); rintro e w' ⟨rfl, ⟨nd, rfl⟩⟩; (try first | exact ⟨rfl, _, World.drewN_drewN _ _ _⟩ | exact ⟨rfl, _, Eq.trans (World.drewN_drewN _ _ _) (congrArg (World.drewN _) (Nat.add_assoc _ _ _))⟩); have hnb61 := NB108_102.out; have hnc61 := NB102_108.out; have hcz62_0 : wc.cell? ⟨gb108, 0, none⟩ = some (.int .i64 x109000_1) := (blk_cell BK108.out 0).trans rfl; have hcz62_1 : wc.cell? ⟨gb108, 1, none⟩ = some (.int .i64 x109001_23) := (blk_cell BK108.out 1).trans rfl; have hcz62_2 : wc.cell? ⟨gb108, 2, none⟩ = some (.int .i64 x109002_41) := (blk_cell BK108.out 2).trans rfl; have hcz62_3 : wc.cell? ⟨gb108, 3, none⟩ = some (.int .i64 0) := (blk_cell BK108.out 3).trans rfl; have hcz62_4 : wc.cell? ⟨gb108, 4, none⟩ = some (.string (⟨#[]⟩ : ByteArray)) := (blk_cell BK108.out 4).trans rfl; have hcz62_5 : wc.cell? ⟨gb108, 5, none⟩ = some (.string (⟨#[]⟩ : ByteArray)) := (blk_cell BK108.out 5).trans rfl; have hfz62_0 := blk_frozen BK108.out 0; have hfz62_1 := blk_frozen BK108.out 1; have hfz62_2 := blk_frozen BK108.out 2; have hfz62_3 := blk_frozen BK108.out 3; have hfz62_4 := blk_frozen BK108.out 4; have hfz62_5 := blk_frozen BK108.out 5; have hcz63_0 : wc.cell? ⟨gb102, 0, none⟩ = some (.int .i64 x103000_41) := (blk_cell BK102.out 0).trans rfl; have hcz63_1 : wc.cell? ⟨gb102, 1, none⟩ = some (.int .i64 x103001_41) := (blk_cell BK102.out 1).trans rfl; have hcz63_2 : wc.cell? ⟨gb102, 2, none⟩ = some (.int .i64 x103002_41) := (blk_cell BK102.out 2).trans rfl; have hcz63_3 : wc.cell? ⟨gb102, 3, none⟩ = some (.int .i64 x103003_41) := (blk_cell BK102.out 3).trans rfl; have hcz63_4 : wc.cell? ⟨gb102, 4, none⟩ = some (.string x103004_41) := (blk_cell BK102.out 4).trans rfl; have hcz63_5 : wc.cell? ⟨gb102, 5, none⟩ = some (.string x103005_41) := (blk_cell BK102.out 5).trans rfl; have hfz63_0 := blk_frozen BK102.out 0; have hfz63_1 := blk_frozen BK102.out 1; have hfz63_2 := blk_frozen BK102.out 2; have hfz63_3 := blk_frozen BK102.out 3; have hfz63_4 := blk_frozen BK102.out 4; have hfz63_5 := blk_frozen BK102.out 5))
                 repeat (go_quiet (first | (go_at_call 17; (with_reducible refine (pannierref20_cut.calls kj51 x6_41 t118 t119 _ A56.out).mono ?_); rintro e w' ⟨rfl, ⟨nd, rfl⟩⟩; (try first | exact ⟨rfl, _, World.drewN_drewN _ _ _⟩ | exact ⟨rfl, _, Eq.trans (World.drewN_drewN _ _ _) (congrArg (World.drewN _) (Nat.add_assoc _ _ _))⟩)) | (go_at_call 18; (with_reducible refine (pannierref20_number.calls kj51 t118 t120 t121 _ A57.out).mono ?_); rintro e w' ⟨rfl, ⟨nd, rfl⟩⟩; (try first | exact ⟨rfl, _, World.drewN_drewN _ _ _⟩ | exact ⟨rfl, _, Eq.trans (World.drewN_drewN _ _ _) (congrArg (World.drewN _) (Nat.add_assoc _ _ _))⟩); have hnb61 := NB108_102.out; have hnc61 := NB102_108.out; have hcz62_0 : wc.cell? ⟨gb108, 0, none⟩ = some (.int .i64 x109000_1) := (blk_cell BK108.out 0).trans rfl; have hcz62_1 : wc.cell? ⟨gb108, 1, none⟩ = some (.int .i64 x109001_23) := (blk_cell BK108.out 1).trans rfl; have hcz62_2 : wc.cell? ⟨gb108, 2, none⟩ = some (.int .i64 x109002_41) := (blk_cell BK108.out 2).trans rfl; have hcz62_3 : wc.cell? ⟨gb108, 3, none⟩ = some (.int .i64 0) := (blk_cell BK108.out 3).trans rfl; have hcz62_4 : wc.cell? ⟨gb108, 4, none⟩ = some (.string (⟨#[]⟩ : ByteArray)) := (blk_cell BK108.out 4).trans rfl; have hcz62_5 : wc.cell? ⟨gb108, 5, none⟩ = some (.string (⟨#[]⟩ : ByteArray)) := (blk_cell BK108.out 5).trans rfl; have hfz62_0 := blk_frozen BK108.out 0; have hfz62_1 := blk_frozen BK108.out 1; have hfz62_2 := blk_frozen BK108.out 2; have hfz62_3 := blk_frozen BK108.out 3; have hfz62_4 := blk_frozen BK108.out 4; have hfz62_5 := blk_frozen BK108.out 5; have hcz63_0 : wc.cell? ⟨gb102, 0, none⟩ = some (.int .i64 x103000_41) := (blk_cell BK102.out 0).trans rfl; have hcz63_1 : wc.cell? ⟨gb102, 1, none⟩ = some (.int .i64 x103001_41) := (blk_cell BK102.out 1).trans rfl; have hcz63_2 : wc.cell? ⟨gb102, 2, none⟩ = some (.int .i64 x103002_41) := (blk_cell BK102.out 2).trans rfl; have hcz63_3 : wc.cell? ⟨gb102, 3, none⟩ = some (.int .i64 x103003_41) := (blk_cell BK102.out 3).trans rfl; have hcz63_4 : wc.cell? ⟨gb102, 4, none⟩ = some (.string x103004_41) := (blk_cell BK102.out 4).trans rfl; have hcz63_5 : wc.cell? ⟨gb102, 5, none⟩ = some (.string x103005_41) := (blk_cell BK102.out 5).trans rfl; have hfz63_0 := blk_frozen BK102.out 0; have hfz63_1 := blk_frozen BK102.out 1; have hfz63_2 := blk_frozen BK102.out 2; have hfz63_3 := blk_frozen BK102.out 3; have hfz63_4 := blk_frozen BK102.out 4; have hfz63_5 := blk_frozen BK102.out 5)); try go_wp2_with (first | (go_at_call 17; (with_reducible refine (pannierref20_cut.calls kj51 x6_41 t118 t119 _ A56.out).mono ?_); rintro e w' ⟨rfl, ⟨nd, rfl⟩⟩; (try first | exact ⟨rfl, _, World.drewN_drewN _ _ _⟩ | exact ⟨rfl, _, Eq.trans (World.drewN_drewN _ _ _) (congrArg (World.drewN _) (Nat.add_assoc _ _ _))⟩)) | (go_at_call 18; (with_reducible refine (pannierref20_number.calls kj51 t118 t120 t121 _ A57.out).mono ?_); rintro e w' ⟨rfl, ⟨nd, rfl⟩⟩; (try first | exact ⟨rfl, _, World.drewN_drewN _ _ _⟩ | exact ⟨rfl, _, Eq.trans (World.drewN_drewN _ _ _) (congrArg (World.drewN _) (Nat.add_assoc _ _ _))⟩); have hnb61 := NB108_102.out; have hnc61 := NB102_108.out; have hcz62_0 : wc.cell? ⟨gb108, 0, none⟩ = some (.int .i64 x109000_1) := (blk_cell BK108.out 0).trans rfl; have hcz62_1 : wc.cell? ⟨gb108, 1, none⟩ = some (.int .i64 x109001_23) := (blk_cell BK108.out 1).trans rfl; have hcz62_2 : wc.cell? ⟨gb108, 2, none⟩ = some (.int .i64 x109002_41) := (blk_cell BK108.out 2).trans rfl; have hcz62_3 : wc.cell? ⟨gb108, 3, none⟩ = some (.int .i64 0) := (blk_cell BK108.out 3).trans rfl; have hcz62_4 : wc.cell? ⟨gb108, 4, none⟩ = some (.string (⟨#[]⟩ : ByteArray)) := (blk_cell BK108.out 4).trans rfl; have hcz62_5 : wc.cell? ⟨gb108, 5, none⟩ = some (.string (⟨#[]⟩ : ByteArray)) := (blk_cell BK108.out 5).trans rfl; have hfz62_0 := blk_frozen BK108.out 0; have hfz62_1 := blk_frozen BK108.out 1; have hfz62_2 := blk_frozen BK108.out 2; have hfz62_3 := blk_frozen BK108.out 3; have hfz62_4 := blk_frozen BK108.out 4; have hfz62_5 := blk_frozen BK108.out 5; have hcz63_0 : wc.cell? ⟨gb102, 0, none⟩ = some (.int .i64 x103000_41) := (blk_cell BK102.out 0).trans rfl; have hcz63_1 : wc.cell? ⟨gb102, 1, none⟩ = some (.int .i64 x103001_41) := (blk_cell BK102.out 1).trans rfl; have hcz63_2 : wc.cell? ⟨gb102, 2, none⟩ = some (.int .i64 x103002_41) := (blk_cell BK102.out 2).trans rfl; have hcz63_3 : wc.cell? ⟨gb102, 3, none⟩ = some (.int .i64 x103003_41) := (blk_cell BK102.out 3).trans rfl; have hcz63_4 : wc.cell? ⟨gb102, 4, none⟩ = some (.string x103004_41) := (blk_cell BK102.out 4).trans rfl; have hcz63_5 : wc.cell? ⟨gb102, 5, none⟩ = some (.string x103005_41) := (blk_cell BK102.out 5).trans rfl; have hfz63_0 := blk_frozen BK102.out 0; have hfz63_1 := blk_frozen BK102.out 1; have hfz63_2 := blk_frozen BK102.out 2; have hfz63_3 := blk_frozen BK102.out 3; have hfz63_4 := blk_frozen BK102.out 4; have hfz63_5 := blk_frozen BK102.out 5)))
                 refine bodyPost_ret (results_ct rfl _ _ gb102 30 #[.int .i64 0, .int .i64 0, .int .i64 0, .int .i64 0, .string (⟨#[]⟩ : ByteArray), .string (⟨#[]⟩ : ByteArray)] (0, 0) _ rfl (by (with_reducible repeat (first | refine blk_drewN ?_ _ | refine blk_drew ?_ | refine blk_alloc ?_ _)); refine blk_put (cs := #[.int .i64 0, .int .i64 0, .int .i64 0, .int .i64 0, .string (⟨#[]⟩ : ByteArray), .string x103005_41]) ?_ 5 _ rfl; (with_reducible repeat (first | refine blk_drewN ?_ _ | refine blk_drew ?_ | refine blk_alloc ?_ _)); refine blk_put (cs := #[.int .i64 0, .int .i64 0, .int .i64 0, .int .i64 0, .string x103004_41, .string x103005_41]) ?_ 4 _ rfl; (with_reducible repeat (first | refine blk_drewN ?_ _ | refine blk_drew ?_ | refine blk_alloc ?_ _)); refine blk_put (cs := #[.int .i64 0, .int .i64 0, .int .i64 0, .int .i64 x103003_41, .string x103004_41, .string x103005_41]) ?_ 3 _ rfl; (with_reducible repeat (first | refine blk_drewN ?_ _ | refine blk_drew ?_ | refine blk_alloc ?_ _)); refine blk_put (cs := #[.int .i64 0, .int .i64 0, .int .i64 x103002_41, .int .i64 x103003_41, .string x103004_41, .string x103005_41]) ?_ 2 _ rfl; (with_reducible repeat (first | refine blk_drewN ?_ _ | refine blk_drew ?_ | refine blk_alloc ?_ _)); refine blk_put (cs := #[.int .i64 0, .int .i64 x103001_41, .int .i64 x103002_41, .int .i64 x103003_41, .string x103004_41, .string x103005_41]) ?_ 1 _ rfl; (with_reducible repeat (first | refine blk_drewN ?_ _ | refine blk_drew ?_ | refine blk_alloc ?_ _)); refine blk_put (cs := #[.int .i64 x103000_41, .int .i64 x103001_41, .int .i64 x103002_41, .int .i64 x103003_41, .string x103004_41, .string x103005_41]) ?_ 0 _ rfl; (with_reducible repeat (first | refine blk_drewN ?_ _ | refine blk_drew ?_ | refine blk_alloc ?_ _)); refine blk_far ?_ NB102_108.out _; (with_reducible repeat (first | refine blk_drewN ?_ _ | refine blk_drew ?_ | refine blk_alloc ?_ _)); exact BK102.out) Tryd.underlying30 rfl (by kernel_rfl)) rfl ?_
                 exact ⟨by first | rfl | (simp [errW_none, errW_some] <;> rfl) | (simp [*, errW_none, errW_some] <;> rfl), by repeat (first | (with_reducible first | exact HB.out | apply below_alloc | apply pw_below_drewN | apply below_drew1 | refine below_set ?_ GE102.out | refine below_set ?_ GE108.out) | exact HB.out)⟩
               ·replace c55 := Bool.eq_false_iff.mpr c55
                subst c55
                have H1 : (pannierref20_Decode.j5 kj51 x6_41 x109000_1 x109000_1 x109001_23 x109002_41 0 (⟨#[]⟩ : ByteArray) (⟨#[]⟩ : ByteArray)) = some (r1, r2, r3, r4, r5, r6, r7) := by rw [if_neg (show ¬ (false = true) by decide)] at H; exact H
                clear H
                have H := H1
                clear H1
                have H' := Aside0.mk H
                clear H
                go_wp2
                repeat (go_quiet (fail); try go_wp2)
                go_meet
                case rel => exact ⟨_, (x6_41), (x103000_41), (x103001_41), (x103002_41), (x103003_41), (x103004_41), (x103005_41), (0), (by first | rfl | (simp; done) | (simp; exact (fun l_ : List UInt8 => (by cases l_ <;> rfl : l_.isEmpty = !(l_ != []))) _) | (simp [*]; done)), H', ⟨by have := HK1.out; have := HJ23.out; have := HJ36.out; have := HJ41.out; have := HJ51.out; first | omega | exact Nat.le_refl _⟩, ⟨by (with_reducible repeat (first | refine blk_drewN ?_ _ | refine blk_drew ?_ | refine blk_alloc ?_ _)); exact BK102.out⟩, ⟨by (with_reducible repeat (first | refine blk_drewN ?_ _ | refine blk_drew ?_ | refine blk_alloc ?_ _)); exact BK108.out⟩, ⟨by repeat (first | (with_reducible first | exact HB.out | apply below_alloc | apply pw_below_drewN | apply below_drew1 | refine below_set ?_ GE102.out | refine below_set ?_ GE108.out) | exact HB.out)⟩⟩
              case rest =>
               clear HC54
               try clear c1
               try clear p1
               try clear q1
               try clear hx1
               try clear c2
               try clear c2b0
               try clear c2b1
               try clear p2
               try clear c3
               try clear c4
               try clear c5
               try clear c6
               try clear p6
               try clear c10
               try clear p10
               try clear q10
               try clear hx10
               try clear c11
               try clear c12
               try clear c12b0
               try clear c13
               try clear c13b0
               try clear c14
               try clear c14b0
               try clear c14b1
               try clear c16
               try clear c19
               try clear c19b0
               try clear c19b1
               try clear c21
               try clear c26
               try clear c28
               try clear c28b0
               try clear c28b1
               try clear c31
               try clear c31b0
               try clear c31b1
               try clear c32
               try clear c34
               try clear c38
               try clear c38b0
               try clear c38b1
               try clear c39
               try clear c39b0
               try clear c39b1
               try clear c40
               try clear c40b0
               try clear c40b1
               try clear c41
               try clear c41b0
               try clear c41b1
               try clear c43
               try clear c46
               try clear c46b0
               try clear c46b1
               try clear c47
               try clear c49
               try clear c53
               try clear c53b0
               try clear c53b1
               try clear c55
               try clear c58
               try clear c58b0
               try clear c58b1
               try clear c59
               try clear c61
               try clear hcz11_0
               try clear hcz11_1
               try clear hcz11_2
               try clear hcz11_3
               try clear hcz11_4
               try clear hcz11_5
               try clear hcz17_0
               try clear hcz17_1
               try clear hcz17_2
               try clear hcz17_3
               try clear hcz17_4
               try clear hcz17_5
               try clear hcz22_0
               try clear hcz22_1
               try clear hcz22_2
               try clear hcz22_3
               try clear hcz22_4
               try clear hcz22_5
               try clear hcz23_0
               try clear hcz23_1
               try clear hcz23_2
               try clear hcz23_3
               try clear hcz23_4
               try clear hcz23_5
               try clear hcz27_0
               try clear hcz27_1
               try clear hcz27_2
               try clear hcz27_3
               try clear hcz27_4
               try clear hcz27_5
               try clear hcz33_0
               try clear hcz33_1
               try clear hcz33_2
               try clear hcz33_3
               try clear hcz33_4
               try clear hcz33_5
               try clear hcz35_0
               try clear hcz35_1
               try clear hcz35_2
               try clear hcz35_3
               try clear hcz35_4
               try clear hcz35_5
               try clear hcz36_0
               try clear hcz36_1
               try clear hcz36_2
               try clear hcz36_3
               try clear hcz36_4
               try clear hcz36_5
               try clear hcz48_0
               try clear hcz48_1
               try clear hcz48_2
               try clear hcz48_3
               try clear hcz48_4
               try clear hcz48_5
               try clear hcz4_0
               try clear hcz4_1
               try clear hcz4_2
               try clear hcz4_3
               try clear hcz4_4
               try clear hcz4_5
               try clear hcz50_0
               try clear hcz50_1
               try clear hcz50_2
               try clear hcz50_3
               try clear hcz50_4
               try clear hcz50_5
               try clear hcz51_0
               try clear hcz51_1
               try clear hcz51_2
               try clear hcz51_3
               try clear hcz51_4
               try clear hcz51_5
               try clear hcz60_0
               try clear hcz60_1
               try clear hcz60_2
               try clear hcz60_3
               try clear hcz60_4
               try clear hcz60_5
               try clear hcz62_0
               try clear hcz62_1
               try clear hcz62_2
               try clear hcz62_3
               try clear hcz62_4
               try clear hcz62_5
               try clear hcz63_0
               try clear hcz63_1
               try clear hcz63_2
               try clear hcz63_3
               try clear hcz63_4
               try clear hcz63_5
               try clear hfz11_0
               try clear hfz11_1
               try clear hfz11_2
               try clear hfz11_3
               try clear hfz11_4
               try clear hfz11_5
               try clear hfz17_0
               try clear hfz17_1
               try clear hfz17_2
               try clear hfz17_3
               try clear hfz17_4
               try clear hfz17_5
               try clear hfz22_0
               try clear hfz22_1
               try clear hfz22_2
               try clear hfz22_3
               try clear hfz22_4
               try clear hfz22_5
               try clear hfz23_0
               try clear hfz23_1
               try clear hfz23_2
               try clear hfz23_3
               try clear hfz23_4
               try clear hfz23_5
               try clear hfz27_0
               try clear hfz27_1
               try clear hfz27_2
               try clear hfz27_3
               try clear hfz27_4
               try clear hfz27_5
               try clear hfz33_0
               try clear hfz33_1
               try clear hfz33_2
               try clear hfz33_3
               try clear hfz33_4
               try clear hfz33_5
               try clear hfz35_0
               try clear hfz35_1
               try clear hfz35_2
               try clear hfz35_3
               try clear hfz35_4
               try clear hfz35_5
               try clear hfz36_0
               try clear hfz36_1
               try clear hfz36_2
               try clear hfz36_3
               try clear hfz36_4
               try clear hfz36_5
               try clear hfz48_0
               try clear hfz48_1
               try clear hfz48_2
               try clear hfz48_3
               try clear hfz48_4
               try clear hfz48_5
               try clear hfz4_0
               try clear hfz4_1
               try clear hfz4_2
               try clear hfz4_3
               try clear hfz4_4
               try clear hfz4_5
               try clear hfz50_0
               try clear hfz50_1
               try clear hfz50_2
               try clear hfz50_3
               try clear hfz50_4
               try clear hfz50_5
               try clear hfz51_0
               try clear hfz51_1
               try clear hfz51_2
               try clear hfz51_3
               try clear hfz51_4
               try clear hfz51_5
               try clear hfz60_0
               try clear hfz60_1
               try clear hfz60_2
               try clear hfz60_3
               try clear hfz60_4
               try clear hfz60_5
               try clear hfz62_0
               try clear hfz62_1
               try clear hfz62_2
               try clear hfz62_3
               try clear hfz62_4
               try clear hfz62_5
               try clear hfz63_0
               try clear hfz63_1
               try clear hfz63_2
               try clear hfz63_3
               try clear hfz63_4
               try clear hfz63_5
               try clear hx109_0
               try clear p1
               try clear p10
               try clear p109
               try clear p2
               try clear p6
               try clear q1
               try clear q10
               try clear q109
               obtain ⟨kq, x6_53, x103000_53, x103001_53, x103002_53, x103003_53, x103004_53, x103005_53, x109003_53, rfl, HA, HJ53, BK102, BK108, HB⟩ := hcut
               cases kq with
               | zero => exact absurd HA.out (by simp [pannierref20_Decode.j5])
               | succ kj53 =>
                have H := HA.out
                clear HA
                simp only [pannierref20_Decode.j5] at H
                have HC64 := Aside0.mk H
                clear H
                go_upto_region 33 with (fail)
                repeat (go_quiet (fail); go_upto_region 33 with (fail))
                go_cut [131] (fun v131 wc => ∃ (kq : Nat) (x131_63 : Bool), v131 = .bool x131_63 ∧ Aside0 (pannierref20_Decode.j6 kq x6_53 x109000_1 x131_63 x109000_1 x109001_23 x109002_41 x109003_53 (⟨#[]⟩ : ByteArray) (⟨#[]⟩ : ByteArray) = some (r1, r2, r3, r4, r5, r6, r7)) ∧ Aside0 (kq ≤ kj53) ∧ Aside0 (wc.heap[gb102]? = some (.cells #[.int .i64 x103000_53, .int .i64 x103001_53, .int .i64 x103002_53, .int .i64 x103003_53, .string x103004_53, .string x103005_53] 30 (0, 0))) ∧ Aside0 (wc.heap[gb108]? = some (.cells #[.int .i64 x109000_1, .int .i64 x109001_23, .int .i64 x109002_41, .int .i64 x109003_53, .string (⟨#[]⟩ : ByteArray), .string (⟨#[]⟩ : ByteArray)] 30 (0, 0))) ∧ Aside0 (Below w.heap.size w wc))
                case first =>
                 have H := HC64.out
                 clear HC64
                 by_cases c65 : x109000_1 ≥ 5
                 ·rw [if_pos c65] at H
                  have c65b0 : decide (5 ≤ x109000_1) = true := decide_eq_true c65
                  clear c65
                  (first | rw [c65b0] | (simp only [i64_w, i32_w]; rw [c65b0]) | skip)
                  have H' := Aside0.mk H
                  clear H
                  go_wp2
                  repeat (go_quiet (fail); try go_wp2)
                  go_meet
                  case rel => exact ⟨_, (decide (x109000_1 ≤ 8)), (by first | rfl | (simp; done) | (simp; exact (fun l_ : List UInt8 => (by cases l_ <;> rfl : l_.isEmpty = !(l_ != []))) _) | (simp [*]; done)), H', ⟨by have := HK1.out; have := HJ23.out; have := HJ36.out; have := HJ41.out; have := HJ51.out; have := HJ53.out; first | omega | exact Nat.le_refl _⟩, ⟨by (with_reducible repeat (first | refine blk_drewN ?_ _ | refine blk_drew ?_ | refine blk_alloc ?_ _)); exact BK102.out⟩, ⟨by (with_reducible repeat (first | refine blk_drewN ?_ _ | refine blk_drew ?_ | refine blk_alloc ?_ _)); exact BK108.out⟩, ⟨by repeat (first | (with_reducible first | exact HB.out | apply below_alloc | apply pw_below_drewN | apply below_drew1 | refine below_set ?_ GE102.out | refine below_set ?_ GE108.out) | exact HB.out)⟩⟩
                 ·rw [if_neg c65] at H
                  have c65b0 : decide (5 ≤ x109000_1) = false := decide_eq_false c65
                  clear c65
                  (first | rw [c65b0] | (simp only [i64_w, i32_w]; rw [c65b0]) | skip)
                  have H' := Aside0.mk H
                  clear H
                  go_wp2
                  repeat (go_quiet (fail); try go_wp2)
                  go_meet
                  case rel => exact ⟨_, (false), (by first | rfl | (simp; done) | (simp; exact (fun l_ : List UInt8 => (by cases l_ <;> rfl : l_.isEmpty = !(l_ != []))) _) | (simp [*]; done)), H', ⟨by have := HK1.out; have := HJ23.out; have := HJ36.out; have := HJ41.out; have := HJ51.out; have := HJ53.out; first | omega | exact Nat.le_refl _⟩, ⟨by (with_reducible repeat (first | refine blk_drewN ?_ _ | refine blk_drew ?_ | refine blk_alloc ?_ _)); exact BK102.out⟩, ⟨by (with_reducible repeat (first | refine blk_drewN ?_ _ | refine blk_drew ?_ | refine blk_alloc ?_ _)); exact BK108.out⟩, ⟨by repeat (first | (with_reducible first | exact HB.out | apply below_alloc | apply pw_below_drewN | apply below_drew1 | refine below_set ?_ GE102.out | refine below_set ?_ GE108.out) | exact HB.out)⟩⟩
                case rest =>
                 clear HC64
                 try clear c1
                 try clear p1
                 try clear q1
                 try clear hx1
                 try clear c2
                 try clear c2b0
                 try clear c2b1
                 try clear p2
                 try clear c3
                 try clear c4
                 try clear c5
                 try clear c6
                 try clear p6
                 try clear c10
                 try clear p10
                 try clear q10
                 try clear hx10
                 try clear c11
                 try clear c12
                 try clear c12b0
                 try clear c13
                 try clear c13b0
                 try clear c14
                 try clear c14b0
                 try clear c14b1
                 try clear c16
                 try clear c19
                 try clear c19b0
                 try clear c19b1
                 try clear c21
                 try clear c26
                 try clear c28
                 try clear c28b0
                 try clear c28b1
                 try clear c31
                 try clear c31b0
                 try clear c31b1
                 try clear c32
                 try clear c34
                 try clear c38
                 try clear c38b0
                 try clear c38b1
                 try clear c39
                 try clear c39b0
                 try clear c39b1
                 try clear c40
                 try clear c40b0
                 try clear c40b1
                 try clear c41
                 try clear c41b0
                 try clear c41b1
                 try clear c43
                 try clear c46
                 try clear c46b0
                 try clear c46b1
                 try clear c47
                 try clear c49
                 try clear c53
                 try clear c53b0
                 try clear c53b1
                 try clear c55
                 try clear c58
                 try clear c58b0
                 try clear c58b1
                 try clear c59
                 try clear c61
                 try clear c65
                 try clear c65b0
                 try clear hcz11_0
                 try clear hcz11_1
                 try clear hcz11_2
                 try clear hcz11_3
                 try clear hcz11_4
                 try clear hcz11_5
                 try clear hcz17_0
                 try clear hcz17_1
                 try clear hcz17_2
                 try clear hcz17_3
                 try clear hcz17_4
                 try clear hcz17_5
                 try clear hcz22_0
                 try clear hcz22_1
                 try clear hcz22_2
                 try clear hcz22_3
                 try clear hcz22_4
                 try clear hcz22_5
                 try clear hcz23_0
                 try clear hcz23_1
                 try clear hcz23_2
                 try clear hcz23_3
                 try clear hcz23_4
                 try clear hcz23_5
                 try clear hcz27_0
                 try clear hcz27_1
                 try clear hcz27_2
                 try clear hcz27_3
                 try clear hcz27_4
                 try clear hcz27_5
                 try clear hcz33_0
                 try clear hcz33_1
                 try clear hcz33_2
                 try clear hcz33_3
                 try clear hcz33_4
                 try clear hcz33_5
                 try clear hcz35_0
                 try clear hcz35_1
                 try clear hcz35_2
                 try clear hcz35_3
                 try clear hcz35_4
                 try clear hcz35_5
                 try clear hcz36_0
                 try clear hcz36_1
                 try clear hcz36_2
                 try clear hcz36_3
                 try clear hcz36_4
                 try clear hcz36_5
                 try clear hcz48_0
                 try clear hcz48_1
                 try clear hcz48_2
                 try clear hcz48_3
                 try clear hcz48_4
                 try clear hcz48_5
                 try clear hcz4_0
                 try clear hcz4_1
                 try clear hcz4_2
                 try clear hcz4_3
                 try clear hcz4_4
                 try clear hcz4_5
                 try clear hcz50_0
                 try clear hcz50_1
                 try clear hcz50_2
                 try clear hcz50_3
                 try clear hcz50_4
                 try clear hcz50_5
                 try clear hcz51_0
                 try clear hcz51_1
                 try clear hcz51_2
                 try clear hcz51_3
                 try clear hcz51_4
                 try clear hcz51_5
                 try clear hcz60_0
                 try clear hcz60_1
                 try clear hcz60_2
                 try clear hcz60_3
                 try clear hcz60_4
                 try clear hcz60_5
                 try clear hcz62_0
                 try clear hcz62_1
                 try clear hcz62_2
                 try clear hcz62_3
                 try clear hcz62_4
                 try clear hcz62_5
                 try clear hcz63_0
                 try clear hcz63_1
                 try clear hcz63_2
                 try clear hcz63_3
                 try clear hcz63_4
                 try clear hcz63_5
                 try clear hfz11_0
                 try clear hfz11_1
                 try clear hfz11_2
                 try clear hfz11_3
                 try clear hfz11_4
                 try clear hfz11_5
                 try clear hfz17_0
                 try clear hfz17_1
                 try clear hfz17_2
                 try clear hfz17_3
                 try clear hfz17_4
                 try clear hfz17_5
                 try clear hfz22_0
                 try clear hfz22_1
                 try clear hfz22_2
                 try clear hfz22_3
                 try clear hfz22_4
                 try clear hfz22_5
                 try clear hfz23_0
                 try clear hfz23_1
                 try clear hfz23_2
                 try clear hfz23_3
                 try clear hfz23_4
                 try clear hfz23_5
                 try clear hfz27_0
                 try clear hfz27_1
                 try clear hfz27_2
                 try clear hfz27_3
                 try clear hfz27_4
                 try clear hfz27_5
                 try clear hfz33_0
                 try clear hfz33_1
                 try clear hfz33_2
                 try clear hfz33_3
                 try clear hfz33_4
                 try clear hfz33_5
                 try clear hfz35_0
                 try clear hfz35_1
                 try clear hfz35_2
                 try clear hfz35_3
                 try clear hfz35_4
                 try clear hfz35_5
                 try clear hfz36_0
                 try clear hfz36_1
                 try clear hfz36_2
                 try clear hfz36_3
                 try clear hfz36_4
                 try clear hfz36_5
                 try clear hfz48_0
                 try clear hfz48_1
                 try clear hfz48_2
                 try clear hfz48_3
                 try clear hfz48_4
                 try clear hfz48_5
                 try clear hfz4_0
                 try clear hfz4_1
                 try clear hfz4_2
                 try clear hfz4_3
                 try clear hfz4_4
                 try clear hfz4_5
                 try clear hfz50_0
                 try clear hfz50_1
                 try clear hfz50_2
                 try clear hfz50_3
                 try clear hfz50_4
                 try clear hfz50_5
                 try clear hfz51_0
                 try clear hfz51_1
                 try clear hfz51_2
                 try clear hfz51_3
                 try clear hfz51_4
                 try clear hfz51_5
                 try clear hfz60_0
                 try clear hfz60_1
                 try clear hfz60_2
                 try clear hfz60_3
                 try clear hfz60_4
                 try clear hfz60_5
                 try clear hfz62_0
                 try clear hfz62_1
                 try clear hfz62_2
                 try clear hfz62_3
                 try clear hfz62_4
                 try clear hfz62_5
                 try clear hfz63_0
                 try clear hfz63_1
                 try clear hfz63_2
                 try clear hfz63_3
                 try clear hfz63_4
                 try clear hfz63_5
                 try clear hx109_0
                 try clear p1
                 try clear p10
                 try clear p109
                 try clear p2
                 try clear p6
                 try clear q1
                 try clear q10
                 try clear q109
                 obtain ⟨kq, x131_63, rfl, HA, HJ63, BK102, BK108, HB⟩ := hcut
                 cases kq with
                 | zero => exact absurd HA.out (by simp [pannierref20_Decode.j6])
                 | succ kj63 =>
                  have H := HA.out
                  clear HA
                  simp only [pannierref20_Decode.j6] at H
                  by_cases c66 : x131_63 = true
                  ·subst c66
                   have H1 : (some (x109000_1, x109001_23, x109002_41, x109003_53, x6_53, (⟨#[]⟩ : ByteArray), 0)) = some (r1, r2, r3, r4, r5, r6, r7) := by rw [if_pos rfl] at H; exact H
                   clear H
                   have H := H1
                   clear H1
                   simp only [Option.some.injEq, Prod.mk.injEq] at H
                   obtain ⟨rfl, rfl, rfl, rfl, rfl, rfl, rfl⟩ := H
                   have hnb67 := NB108_102.out
                   have hnc67 := NB102_108.out
                   have hcz68_0 : wc.cell? ⟨gb108, 0, none⟩ = some (.int .i64 x109000_1) := (blk_cell BK108.out 0).trans rfl
                   have hcz68_1 : wc.cell? ⟨gb108, 1, none⟩ = some (.int .i64 x109001_23) := (blk_cell BK108.out 1).trans rfl
                   have hcz68_2 : wc.cell? ⟨gb108, 2, none⟩ = some (.int .i64 x109002_41) := (blk_cell BK108.out 2).trans rfl
                   have hcz68_3 : wc.cell? ⟨gb108, 3, none⟩ = some (.int .i64 x109003_53) := (blk_cell BK108.out 3).trans rfl
                   have hcz68_4 : wc.cell? ⟨gb108, 4, none⟩ = some (.string (⟨#[]⟩ : ByteArray)) := (blk_cell BK108.out 4).trans rfl
                   have hcz68_5 : wc.cell? ⟨gb108, 5, none⟩ = some (.string (⟨#[]⟩ : ByteArray)) := (blk_cell BK108.out 5).trans rfl
                   have hfz68_0 := blk_frozen BK108.out 0
                   have hfz68_1 := blk_frozen BK108.out 1
                   have hfz68_2 := blk_frozen BK108.out 2
                   have hfz68_3 := blk_frozen BK108.out 3
                   have hfz68_4 := blk_frozen BK108.out 4
                   have hfz68_5 := blk_frozen BK108.out 5
                   have hcz69_0 : wc.cell? ⟨gb102, 0, none⟩ = some (.int .i64 x103000_53) := (blk_cell BK102.out 0).trans rfl
                   have hcz69_1 : wc.cell? ⟨gb102, 1, none⟩ = some (.int .i64 x103001_53) := (blk_cell BK102.out 1).trans rfl
                   have hcz69_2 : wc.cell? ⟨gb102, 2, none⟩ = some (.int .i64 x103002_53) := (blk_cell BK102.out 2).trans rfl
                   have hcz69_3 : wc.cell? ⟨gb102, 3, none⟩ = some (.int .i64 x103003_53) := (blk_cell BK102.out 3).trans rfl
                   have hcz69_4 : wc.cell? ⟨gb102, 4, none⟩ = some (.string x103004_53) := (blk_cell BK102.out 4).trans rfl
                   have hcz69_5 : wc.cell? ⟨gb102, 5, none⟩ = some (.string x103005_53) := (blk_cell BK102.out 5).trans rfl
                   have hfz69_0 := blk_frozen BK102.out 0
                   have hfz69_1 := blk_frozen BK102.out 1
                   have hfz69_2 := blk_frozen BK102.out 2
                   have hfz69_3 := blk_frozen BK102.out 3
                   have hfz69_4 := blk_frozen BK102.out 4
                   have hfz69_5 := blk_frozen BK102.out 5
                   go_wp2
                   repeat (go_quiet (fail); try go_wp2)
                   refine bodyPost_ret (results_ct rfl _ _ gb102 30 #[.int .i64 x109000_1, .int .i64 x109001_23, .int .i64 x109002_41, .int .i64 x109003_53, .string x6_53, .string (⟨#[]⟩ : ByteArray)] (0, 0) _ rfl (by (with_reducible repeat (first | refine blk_drewN ?_ _ | refine blk_drew ?_ | refine blk_alloc ?_ _)); refine blk_put (cs := #[.int .i64 x109000_1, .int .i64 x109001_23, .int .i64 x109002_41, .int .i64 x109003_53, .string x6_53, .string x103005_53]) ?_ 5 _ rfl; (with_reducible repeat (first | refine blk_drewN ?_ _ | refine blk_drew ?_ | refine blk_alloc ?_ _)); refine blk_put (cs := #[.int .i64 x109000_1, .int .i64 x109001_23, .int .i64 x109002_41, .int .i64 x109003_53, .string x103004_53, .string x103005_53]) ?_ 4 _ rfl; (with_reducible repeat (first | refine blk_drewN ?_ _ | refine blk_drew ?_ | refine blk_alloc ?_ _)); refine blk_put (cs := #[.int .i64 x109000_1, .int .i64 x109001_23, .int .i64 x109002_41, .int .i64 x103003_53, .string x103004_53, .string x103005_53]) ?_ 3 _ rfl; (with_reducible repeat (first | refine blk_drewN ?_ _ | refine blk_drew ?_ | refine blk_alloc ?_ _)); refine blk_put (cs := #[.int .i64 x109000_1, .int .i64 x109001_23, .int .i64 x103002_53, .int .i64 x103003_53, .string x103004_53, .string x103005_53]) ?_ 2 _ rfl; (with_reducible repeat (first | refine blk_drewN ?_ _ | refine blk_drew ?_ | refine blk_alloc ?_ _)); refine blk_put (cs := #[.int .i64 x109000_1, .int .i64 x103001_53, .int .i64 x103002_53, .int .i64 x103003_53, .string x103004_53, .string x103005_53]) ?_ 1 _ rfl; (with_reducible repeat (first | refine blk_drewN ?_ _ | refine blk_drew ?_ | refine blk_alloc ?_ _)); refine blk_put (cs := #[.int .i64 x103000_53, .int .i64 x103001_53, .int .i64 x103002_53, .int .i64 x103003_53, .string x103004_53, .string x103005_53]) ?_ 0 _ rfl; (with_reducible repeat (first | refine blk_drewN ?_ _ | refine blk_drew ?_ | refine blk_alloc ?_ _)); refine blk_far ?_ NB102_108.out _; (with_reducible repeat (first | refine blk_drewN ?_ _ | refine blk_drew ?_ | refine blk_alloc ?_ _)); exact BK102.out) Tryd.underlying30 rfl (by kernel_rfl)) rfl ?_
                   exact ⟨by first | rfl | (simp [errW_none, errW_some] <;> rfl) | (simp [*, errW_none, errW_some] <;> rfl), by repeat (first | (with_reducible first | exact HB.out | apply below_alloc | apply pw_below_drewN | apply below_drew1 | refine below_set ?_ GE102.out | refine below_set ?_ GE108.out) | exact HB.out)⟩
                  ·replace c66 := Bool.eq_false_iff.mpr c66
                   subst c66
                   have H1 : (if x109000_1 = 2 then (if ((x6_53.size : Int) % 2) = 0 then (pannierref20_Decode.l1 kj63 x6_53 0 x109000_1 x109001_23 x109002_41 x109003_53 (⟨#[]⟩ : ByteArray) (⟨#[]⟩ : ByteArray)) else (some (0, 0, 0, 0, (⟨#[]⟩ : ByteArray), (⟨#[]⟩ : ByteArray), 200))) else (if x6_53.toList = ([] : List UInt8) then (some (x109000_1, x109001_23, x109002_41, x109003_53, (⟨#[]⟩ : ByteArray), (⟨#[]⟩ : ByteArray), 0)) else (some (0, 0, 0, 0, (⟨#[]⟩ : ByteArray), (⟨#[]⟩ : ByteArray), 200)))) = some (r1, r2, r3, r4, r5, r6, r7) := by rw [if_neg (show ¬ (false = true) by decide)] at H; exact H
                   clear H
                   have H := H1
                   clear H1
                   by_cases c70 : x109000_1 = 2
                   ·rw [if_pos c70] at H
                    have c70b0 : (x109000_1 == 2) = true := beq_iff_eq.mpr c70
                    have c70b1 : (x109000_1 != 2) = false := bne_eq_false_iff_eq.mpr c70
                    clear c70
                    by_cases c71 : ((x6_53.size : Int) % 2) = 0
                    ·rw [if_pos c71] at H
                     have c71b0 : (((x6_53.size : Int) % 2) == 0) = true := beq_iff_eq.mpr c71
                     have c71b1 : (((x6_53.size : Int) % 2) != 0) = false := bne_eq_false_iff_eq.mpr c71
                     clear c71
                     have H' := Aside0.mk H
                     clear H
                     go_wp2
                     repeat (go_quiet (fail); try go_wp2)
                     go_loopg [17] kj63 (fun kq v17 w' => ∃ (x17_8 : Int) (x103000_8 : Int) (x103001_8 : Int) (x103002_8 : Int) (x103003_8 : Int) (x103004_8 : ByteArray) (x103005_8 : ByteArray) (x109005_8 : ByteArray), v17 = .int .i64 x17_8 ∧ Aside0 (pannierref20_Decode.l1 kq x6_53 x17_8 x109000_1 x109001_23 x109002_41 x109003_53 (⟨#[]⟩ : ByteArray) x109005_8 = some (r1, r2, r3, r4, r5, r6, r7)) ∧ Aside0 (kq ≤ kj63) ∧ Aside0 (w'.heap[gb102]? = some (.cells #[.int .i64 x103000_8, .int .i64 x103001_8, .int .i64 x103002_8, .int .i64 x103003_8, .string x103004_8, .string x103005_8] 30 (0, 0))) ∧ Aside0 (w'.heap[gb108]? = some (.cells #[.int .i64 x109000_1, .int .i64 x109001_23, .int .i64 x109002_41, .int .i64 x109003_53, .string (⟨#[]⟩ : ByteArray), .string x109005_8] 30 (0, 0))) ∧ Aside0 (Below w.heap.size w w'))
                     case atStart => exact ⟨(0), (x103000_53), (x103001_53), (x103002_53), (x103003_53), (x103004_53), (x103005_53), ((⟨#[]⟩ : ByteArray)), (by first | rfl | (simp; done) | (simp; exact (fun l_ : List UInt8 => (by cases l_ <;> rfl : l_.isEmpty = !(l_ != []))) _) | (simp [*]; done)), H', ⟨Nat.le_refl _⟩, ⟨by (with_reducible repeat (first | refine blk_drewN ?_ _ | refine blk_drew ?_ | refine blk_alloc ?_ _)); exact BK102.out⟩, ⟨by (with_reducible repeat (first | refine blk_drewN ?_ _ | refine blk_drew ?_ | refine blk_alloc ?_ _)); exact BK108.out⟩, ⟨by repeat (first | (with_reducible first | exact HB.out | apply below_alloc | apply pw_below_drewN | apply below_drew1 | refine below_set ?_ GE102.out | refine below_set ?_ GE108.out) | exact HB.out)⟩⟩
                     case round =>
                      clear H'
                      try clear c1
                      try clear p1
                      try clear q1
                      try clear hx1
                      try clear c2
                      try clear c2b0
                      try clear c2b1
                      try clear p2
                      try clear c3
                      try clear c4
                      try clear c5
                      try clear c6
                      try clear p6
                      try clear c7
                      try clear c10
                      try clear p10
                      try clear q10
                      try clear hx10
                      try clear c11
                      try clear c12
                      try clear c12b0
                      try clear c13
                      try clear c13b0
                      try clear c14
                      try clear c14b0
                      try clear c14b1
                      try clear c16
                      try clear c19
                      try clear c19b0
                      try clear c19b1
                      try clear c21
                      try clear c26
                      try clear c28
                      try clear c28b0
                      try clear c28b1
                      try clear c31
                      try clear c31b0
                      try clear c31b1
                      try clear c32
                      try clear c34
                      try clear c38
                      try clear c38b0
                      try clear c38b1
                      try clear c39
                      try clear c39b0
                      try clear c39b1
                      try clear c40
                      try clear c40b0
                      try clear c40b1
                      try clear c41
                      try clear c41b0
                      try clear c41b1
                      try clear c43
                      try clear c46
                      try clear c46b0
                      try clear c46b1
                      try clear c47
                      try clear c49
                      try clear c53
                      try clear c53b0
                      try clear c53b1
                      try clear c55
                      try clear c58
                      try clear c58b0
                      try clear c58b1
                      try clear c59
                      try clear c61
                      try clear c65
                      try clear c65b0
                      try clear c66
                      try clear c67
                      try clear c70
                      try clear c70b0
                      try clear c70b1
                      try clear c71
                      try clear c71b0
                      try clear c71b1
                      try clear hcz11_0
                      try clear hcz11_1
                      try clear hcz11_2
                      try clear hcz11_3
                      try clear hcz11_4
                      try clear hcz11_5
                      try clear hcz17_0
                      try clear hcz17_1
                      try clear hcz17_2
                      try clear hcz17_3
                      try clear hcz17_4
                      try clear hcz17_5
                      try clear hcz22_0
                      try clear hcz22_1
                      try clear hcz22_2
                      try clear hcz22_3
                      try clear hcz22_4
                      try clear hcz22_5
                      try clear hcz23_0
                      try clear hcz23_1
                      try clear hcz23_2
                      try clear hcz23_3
                      try clear hcz23_4
                      try clear hcz23_5
                      try clear hcz27_0
                      try clear hcz27_1
                      try clear hcz27_2
                      try clear hcz27_3
                      try clear hcz27_4
                      try clear hcz27_5
                      try clear hcz33_0
                      try clear hcz33_1
                      try clear hcz33_2
                      try clear hcz33_3
                      try clear hcz33_4
                      try clear hcz33_5
                      try clear hcz35_0
                      try clear hcz35_1
                      try clear hcz35_2
                      try clear hcz35_3
                      try clear hcz35_4
                      try clear hcz35_5
                      try clear hcz36_0
                      try clear hcz36_1
                      try clear hcz36_2
                      try clear hcz36_3
                      try clear hcz36_4
                      try clear hcz36_5
                      try clear hcz48_0
                      try clear hcz48_1
                      try clear hcz48_2
                      try clear hcz48_3
                      try clear hcz48_4
                      try clear hcz48_5
                      try clear hcz4_0
                      try clear hcz4_1
                      try clear hcz4_2
                      try clear hcz4_3
                      try clear hcz4_4
                      try clear hcz4_5
                      try clear hcz50_0
                      try clear hcz50_1
                      try clear hcz50_2
                      try clear hcz50_3
                      try clear hcz50_4
                      try clear hcz50_5
                      try clear hcz51_0
                      try clear hcz51_1
                      try clear hcz51_2
                      try clear hcz51_3
                      try clear hcz51_4
                      try clear hcz51_5
                      try clear hcz60_0
                      try clear hcz60_1
                      try clear hcz60_2
                      try clear hcz60_3
                      try clear hcz60_4
                      try clear hcz60_5
                      try clear hcz62_0
                      try clear hcz62_1
                      try clear hcz62_2
                      try clear hcz62_3
                      try clear hcz62_4
                      try clear hcz62_5
                      try clear hcz63_0
                      try clear hcz63_1
                      try clear hcz63_2
                      try clear hcz63_3
                      try clear hcz63_4
                      try clear hcz63_5
                      try clear hcz68_0
                      try clear hcz68_1
                      try clear hcz68_2
                      try clear hcz68_3
                      try clear hcz68_4
                      try clear hcz68_5
                      try clear hcz69_0
                      try clear hcz69_1
                      try clear hcz69_2
                      try clear hcz69_3
                      try clear hcz69_4
                      try clear hcz69_5
                      try clear hfz11_0
                      try clear hfz11_1
                      try clear hfz11_2
                      try clear hfz11_3
                      try clear hfz11_4
                      try clear hfz11_5
                      try clear hfz17_0
                      try clear hfz17_1
                      try clear hfz17_2
                      try clear hfz17_3
                      try clear hfz17_4
                      try clear hfz17_5
                      try clear hfz22_0
                      try clear hfz22_1
                      try clear hfz22_2
                      try clear hfz22_3
                      try clear hfz22_4
                      try clear hfz22_5
                      try clear hfz23_0
                      try clear hfz23_1
                      try clear hfz23_2
                      try clear hfz23_3
                      try clear hfz23_4
                      try clear hfz23_5
                      try clear hfz27_0
                      try clear hfz27_1
                      try clear hfz27_2
                      try clear hfz27_3
                      try clear hfz27_4
                      try clear hfz27_5
                      try clear hfz33_0
                      try clear hfz33_1
                      try clear hfz33_2
                      try clear hfz33_3
                      try clear hfz33_4
                      try clear hfz33_5
                      try clear hfz35_0
                      try clear hfz35_1
                      try clear hfz35_2
                      try clear hfz35_3
                      try clear hfz35_4
                      try clear hfz35_5
                      try clear hfz36_0
                      try clear hfz36_1
                      try clear hfz36_2
                      try clear hfz36_3
                      try clear hfz36_4
                      try clear hfz36_5
                      try clear hfz48_0
                      try clear hfz48_1
                      try clear hfz48_2
                      try clear hfz48_3
                      try clear hfz48_4
                      try clear hfz48_5
                      try clear hfz4_0
                      try clear hfz4_1
                      try clear hfz4_2
                      try clear hfz4_3
                      try clear hfz4_4
                      try clear hfz4_5
                      try clear hfz50_0
                      try clear hfz50_1
                      try clear hfz50_2
                      try clear hfz50_3
                      try clear hfz50_4
                      try clear hfz50_5
                      try clear hfz51_0
                      try clear hfz51_1
                      try clear hfz51_2
                      try clear hfz51_3
                      try clear hfz51_4
                      try clear hfz51_5
                      try clear hfz60_0
                      try clear hfz60_1
                      try clear hfz60_2
                      try clear hfz60_3
                      try clear hfz60_4
                      try clear hfz60_5
                      try clear hfz62_0
                      try clear hfz62_1
                      try clear hfz62_2
                      try clear hfz62_3
                      try clear hfz62_4
                      try clear hfz62_5
                      try clear hfz63_0
                      try clear hfz63_1
                      try clear hfz63_2
                      try clear hfz63_3
                      try clear hfz63_4
                      try clear hfz63_5
                      try clear hfz68_0
                      try clear hfz68_1
                      try clear hfz68_2
                      try clear hfz68_3
                      try clear hfz68_4
                      try clear hfz68_5
                      try clear hfz69_0
                      try clear hfz69_1
                      try clear hfz69_2
                      try clear hfz69_3
                      try clear hfz69_4
                      try clear hfz69_5
                      try clear hx109_0
                      try clear p1
                      try clear p10
                      try clear p109
                      try clear p2
                      try clear p6
                      try clear q1
                      try clear q10
                      try clear q109
                      obtain ⟨x17_8, x103000_8, x103001_8, x103002_8, x103003_8, x103004_8, x103005_8, x109005_8, rfl, HA, HK8, BK102, BK108, HB⟩ := hrel
                      cases gk with
                      | zero => exact absurd HA.out (by simp [pannierref20_Decode.l1])
                      | succ k8 =>
                       have H := HA.out
                       clear HA
                       simp only [pannierref20_Decode.l1] at H
                       by_cases c72 : x17_8 < (x6_53.size : Int)
                       ·rw [if_pos c72] at H
                        have c72b0 : decide (x17_8 < (x6_53.size : Int)) = true := decide_eq_true c72
                        clear c72
                        by_cases c73 : 0 ≤ x17_8
                        ·rw [if_pos c73] at H
                         have c73b0 : decide (0 ≤ x17_8) = true := decide_eq_true c73
                         clear c73
                         replace H := Option.bind_eq_some_iff.mp H
                         obtain ⟨t122, A750, H⟩ := H
                         replace H : (if 0 ≤ (wrap64 (x17_8 + 1)) then (if (wrap64 (x17_8 + 1)) < (x6_53.size : Int) then ((pannierref20_digit.f k8 (bt x6_53 (wrap64 (x17_8 + 1)))).bind fun t123 => (if t122 < 0 then (some (0, 0, 0, 0, (⟨#[]⟩ : ByteArray), (⟨#[]⟩ : ByteArray), 200)) else (if t123 < 0 then (some (0, 0, 0, 0, (⟨#[]⟩ : ByteArray), (⟨#[]⟩ : ByteArray), 200)) else ((some (([(wrap64 ((wrap64 (16 * t122)) + t123)) % 256] : List Int) : List Int)).bind fun y124 => (if x109005_8.size + (strOfNums y124).size ≤ 9223372036854775807 then (pannierref20_Decode.l1 k8 x6_53 (wrap64 (x17_8 + 2)) x109000_1 x109001_23 x109002_41 x109003_53 (⟨#[]⟩ : ByteArray) (x109005_8 ++ (strOfNums y124))) else (none)))))) else (none)) else (none)) = some (r1, r2, r3, r4, r5, r6, r7) := H
                         have A75 := Aside0.mk A750
                         clear A750
                         obtain ⟨ji76, hji76⟩ : ∃ j_ : Int, (wrap64 (x17_8 + 1)) = j_ := ⟨_, rfl⟩
                         replace H : (if 0 ≤ (ji76) then (if (ji76) < (x6_53.size : Int) then ((pannierref20_digit.f k8 (bt x6_53 (ji76))).bind fun t123 => (if t122 < 0 then (some (0, 0, 0, 0, (⟨#[]⟩ : ByteArray), (⟨#[]⟩ : ByteArray), 200)) else (if t123 < 0 then (some (0, 0, 0, 0, (⟨#[]⟩ : ByteArray), (⟨#[]⟩ : ByteArray), 200)) else ((some (([(wrap64 ((wrap64 (16 * t122)) + t123)) % 256] : List Int) : List Int)).bind fun y124 => (if x109005_8.size + (strOfNums y124).size ≤ 9223372036854775807 then (pannierref20_Decode.l1 k8 x6_53 (wrap64 (x17_8 + 2)) x109000_1 x109001_23 x109002_41 x109003_53 (⟨#[]⟩ : ByteArray) (x109005_8 ++ (strOfNums y124))) else (none)))))) else (none)) else (none)) = some (r1, r2, r3, r4, r5, r6, r7) := by first | (rw [hji76] at H; exact H) | (simp only [hji76] at H ⊢; exact H)
                         (try rw [hji76] at A75)
                         have hji76w : (IntKind.i64.wrap (x17_8 + 1)) = ji76 := (i64_w _).trans hji76
                         by_cases c77 : 0 ≤ (ji76)
                         ·rw [if_pos c77] at H
                          have c77b0 : decide (0 ≤ (ji76)) = true := decide_eq_true c77
                          clear c77
                          by_cases c78 : (ji76) < (x6_53.size : Int)
                          ·rw [if_pos c78] at H
                           have c78b0 : decide ((ji76) < (x6_53.size : Int)) = true := decide_eq_true c78
                           clear c78
                           replace H := Option.bind_eq_some_iff.mp H
                           obtain ⟨t123, A800, H⟩ := H
                           replace H : (if t122 < 0 then (some (0, 0, 0, 0, (⟨#[]⟩ : ByteArray), (⟨#[]⟩ : ByteArray), 200)) else (if t123 < 0 then (some (0, 0, 0, 0, (⟨#[]⟩ : ByteArray), (⟨#[]⟩ : ByteArray), 200)) else ((some (([(wrap64 ((wrap64 (16 * t122)) + t123)) % 256] : List Int) : List Int)).bind fun y124 => (if x109005_8.size + (strOfNums y124).size ≤ 9223372036854775807 then (pannierref20_Decode.l1 k8 x6_53 (wrap64 (x17_8 + 2)) x109000_1 x109001_23 x109002_41 x109003_53 (⟨#[]⟩ : ByteArray) (x109005_8 ++ (strOfNums y124))) else (none))))) = some (r1, r2, r3, r4, r5, r6, r7) := H
                           have A80 := Aside0.mk A800
                           clear A800
                           by_cases c81 : t122 < 0
                           ·rw [if_pos c81] at H
                            have c81b0 : decide (t122 < 0) = true := decide_eq_true c81
                            clear c81
                            simp only [Option.some.injEq, Prod.mk.injEq] at H
                            obtain ⟨rfl, rfl, rfl, rfl, rfl, rfl, rfl⟩ := H
                            have p74 : 0 ≤ (x17_8 : Int) := of_decide_eq_true (by first | (with_reducible assumption) | assumption)
                            have q74 : x17_8 < (x6_53.size : Int) := of_decide_eq_true (by first | (with_reducible assumption) | assumption)
                            have hx74 := bt_at x6_53 x17_8
                            replace p74 := eq_true p74
                            replace q74 := eq_true q74
                            go_wp2_with (first | (go_at_call 19; (with_reducible refine (pannierref20_digit.calls k8 (bt x6_53 x17_8) t122 _ A75.out).mono ?_); rintro e w' ⟨rfl, ⟨nd, rfl⟩⟩; (try first | exact ⟨rfl, _, World.drewN_drewN _ _ _⟩ | exact ⟨rfl, _, Eq.trans (World.drewN_drewN _ _ _) (congrArg (World.drewN _) (Nat.add_assoc _ _ _))⟩); have p79 : 0 ≤ ((ji76) : Int) := of_decide_eq_true (by first | (with_reducible assumption) | assumption); have q79 : (ji76) < (x6_53.size : Int) := of_decide_eq_true (by first | (with_reducible assumption) | assumption); have hx79 := bt_at x6_53 (ji76); replace p79 := eq_true p79; replace q79 := eq_true q79) | (go_at_call 19; (with_reducible refine (pannierref20_digit.calls k8 (bt x6_53 (ji76)) t123 _ A80.out).mono ?_); rintro e w' ⟨rfl, ⟨nd, rfl⟩⟩; (try first | exact ⟨rfl, _, World.drewN_drewN _ _ _⟩ | exact ⟨rfl, _, Eq.trans (World.drewN_drewN _ _ _) (congrArg (World.drewN _) (Nat.add_assoc _ _ _))⟩); have hnb82 := NB102_108.out; have hnc82 := NB108_102.out; have hcz83_0 : wr.cell? ⟨gb102, 0, none⟩ = some (.int .i64 x103000_8) := (blk_cell BK102.out 0).trans rfl; have hcz83_1 : wr.cell? ⟨gb102, 1, none⟩ = some (.int .i64 x103001_8) := (blk_cell BK102.out 1).trans rfl; have hcz83_2 : wr.cell? ⟨gb102, 2, none⟩ = some (.int .i64 x103002_8) := (blk_cell BK102.out 2).trans rfl; have hcz83_3 : wr.cell? ⟨gb102, 3, none⟩ = some (.int .i64 x103003_8) := (blk_cell BK102.out 3).trans rfl; have hcz83_4 : wr.cell? ⟨gb102, 4, none⟩ = some (.string x103004_8) := (blk_cell BK102.out 4).trans rfl; have hcz83_5 : wr.cell? ⟨gb102, 5, none⟩ = some (.string x103005_8) := (blk_cell BK102.out 5).trans rfl; have hfz83_0 := blk_frozen BK102.out 0; have hfz83_1 := blk_frozen BK102.out 1; have hfz83_2 := blk_frozen BK102.out 2; have hfz83_3 := blk_frozen BK102.out 3; have hfz83_4 := blk_frozen BK102.out 4; have hfz83_5 := blk_frozen BK102.out 5))
                            repeat (go_quiet (first | (go_at_call 19; (with_reducible refine (pannierref20_digit.calls k8 (bt x6_53 x17_8) t122 _ A75.out).mono ?_); rintro e w' ⟨rfl, ⟨nd, rfl⟩⟩; (try first | exact ⟨rfl, _, World.drewN_drewN _ _ _⟩ | exact ⟨rfl, _, Eq.trans (World.drewN_drewN _ _ _) (congrArg (World.drewN _) (Nat.add_assoc _ _ _))⟩); have p79 : 0 ≤ ((ji76) : Int) := of_decide_eq_true (by first | (with_reducible assumption) | assumption); have q79 : (ji76) < (x6_53.size : Int) := of_decide_eq_true (by first | (with_reducible assumption) | assumption); have hx79 := bt_at x6_53 (ji76); replace p79 := eq_true p79; replace q79 := eq_true q79) | (go_at_call 19; (with_reducible refine (pannierref20_digit.calls k8 (bt x6_53 (ji76)) t123 _ A80.out).mono ?_); rintro e w' ⟨rfl, ⟨nd, rfl⟩⟩; (try first | exact ⟨rfl, _, World.drewN_drewN _ _ _⟩ | exact ⟨rfl, _, Eq.trans (World.drewN_drewN _ _ _) (congrArg (World.drewN _) (Nat.add_assoc _ _ _))⟩); have hnb82 := NB102_108.out; have hnc82 := NB108_102.out; have hcz83_0 : wr.cell? ⟨gb102, 0, none⟩ = some (.int .i64 x103000_8) := (blk_cell BK102.out 0).trans rfl; have hcz83_1 : wr.cell? ⟨gb102, 1, none⟩ = some (.int .i64 x103001_8) := (blk_cell BK102.out 1).trans rfl; have hcz83_2 : wr.cell? ⟨gb102, 2, none⟩ = some (.int .i64 x103002_8) := (blk_cell BK102.out 2).trans rfl; have hcz83_3 : wr.cell? ⟨gb102, 3, none⟩ = some (.int .i64 x103003_8) := (blk_cell BK102.out 3).trans rfl; have hcz83_4 : wr.cell? ⟨gb102, 4, none⟩ = some (.string x103004_8) := (blk_cell BK102.out 4).trans rfl; have hcz83_5 : wr.cell? ⟨gb102, 5, none⟩ = some (.string x103005_8) := (blk_cell BK102.out 5).trans rfl; have hfz83_0 := blk_frozen BK102.out 0; have hfz83_1 := blk_frozen BK102.out 1; have hfz83_2 := blk_frozen BK102.out 2; have hfz83_3 := blk_frozen BK102.out 3; have hfz83_4 := blk_frozen BK102.out 4; have hfz83_5 := blk_frozen BK102.out 5)); try go_wp2_with (first | (go_at_call 19; (with_reducible refine (pannierref20_digit.calls k8 (bt x6_53 x17_8) t122 _ A75.out).mono ?_); rintro e w' ⟨rfl, ⟨nd, rfl⟩⟩; (try first | exact ⟨rfl, _, World.drewN_drewN _ _ _⟩ | exact ⟨rfl, _, Eq.trans (World.drewN_drewN _ _ _) (congrArg (World.drewN _) (Nat.add_assoc _ _ _))⟩); have p79 : 0 ≤ ((ji76) : Int) := of_decide_eq_true (by first | (with_reducible assumption) | assumption); have q79 : (ji76) < (x6_53.size : Int) := of_decide_eq_true (by first | (with_reducible assumption) | assumption); have hx79 := bt_at x6_53 (ji76); replace p79 := eq_true p79; replace q79 := eq_true q79) | (go_at_call 19; (with_reducible refine (pannierref20_digit.calls k8 (bt x6_53 (ji76)) t123 _ A80.out).mono ?_); rintro e w' ⟨rfl, ⟨nd, rfl⟩⟩; (try first | exact ⟨rfl, _, World.drewN_drewN _ _ _⟩ | exact ⟨rfl, _, Eq.trans (World.drewN_drewN _ _ _) (congrArg (World.drewN _) (Nat.add_assoc _ _ _))⟩); have hnb82 := NB102_108.out; have hnc82 := NB108_102.out; have hcz83_0 : wr.cell? ⟨gb102, 0, none⟩ = some (.int .i64 x103000_8) := (blk_cell BK102.out 0).trans rfl; have hcz83_1 : wr.cell? ⟨gb102, 1, none⟩ = some (.int .i64 x103001_8) := (blk_cell BK102.out 1).trans rfl; have hcz83_2 : wr.cell? ⟨gb102, 2, none⟩ = some (.int .i64 x103002_8) := (blk_cell BK102.out 2).trans rfl; have hcz83_3 : wr.cell? ⟨gb102, 3, none⟩ = some (.int .i64 x103003_8) := (blk_cell BK102.out 3).trans rfl; have hcz83_4 : wr.cell? ⟨gb102, 4, none⟩ = some (.string x103004_8) := (blk_cell BK102.out 4).trans rfl; have hcz83_5 : wr.cell? ⟨gb102, 5, none⟩ = some (.string x103005_8) := (blk_cell BK102.out 5).trans rfl; have hfz83_0 := blk_frozen BK102.out 0; have hfz83_1 := blk_frozen BK102.out 1; have hfz83_2 := blk_frozen BK102.out 2; have hfz83_3 := blk_frozen BK102.out 3; have hfz83_4 := blk_frozen BK102.out 4; have hfz83_5 := blk_frozen BK102.out 5)))
                            refine bodyPost_ret (results_ct rfl _ _ gb102 30 #[.int .i64 0, .int .i64 0, .int .i64 0, .int .i64 0, .string (⟨#[]⟩ : ByteArray), .string (⟨#[]⟩ : ByteArray)] (0, 0) _ rfl (by (with_reducible repeat (first | refine blk_drewN ?_ _ | refine blk_drew ?_ | refine blk_alloc ?_ _)); refine blk_put (cs := #[.int .i64 0, .int .i64 0, .int .i64 0, .int .i64 0, .string (⟨#[]⟩ : ByteArray), .string x103005_8]) ?_ 5 _ rfl; (with_reducible repeat (first | refine blk_drewN ?_ _ | refine blk_drew ?_ | refine blk_alloc ?_ _)); refine blk_put (cs := #[.int .i64 0, .int .i64 0, .int .i64 0, .int .i64 0, .string x103004_8, .string x103005_8]) ?_ 4 _ rfl; (with_reducible repeat (first | refine blk_drewN ?_ _ | refine blk_drew ?_ | refine blk_alloc ?_ _)); refine blk_put (cs := #[.int .i64 0, .int .i64 0, .int .i64 0, .int .i64 x103003_8, .string x103004_8, .string x103005_8]) ?_ 3 _ rfl; (with_reducible repeat (first | refine blk_drewN ?_ _ | refine blk_drew ?_ | refine blk_alloc ?_ _)); refine blk_put (cs := #[.int .i64 0, .int .i64 0, .int .i64 x103002_8, .int .i64 x103003_8, .string x103004_8, .string x103005_8]) ?_ 2 _ rfl; (with_reducible repeat (first | refine blk_drewN ?_ _ | refine blk_drew ?_ | refine blk_alloc ?_ _)); refine blk_put (cs := #[.int .i64 0, .int .i64 x103001_8, .int .i64 x103002_8, .int .i64 x103003_8, .string x103004_8, .string x103005_8]) ?_ 1 _ rfl; (with_reducible repeat (first | refine blk_drewN ?_ _ | refine blk_drew ?_ | refine blk_alloc ?_ _)); refine blk_put (cs := #[.int .i64 x103000_8, .int .i64 x103001_8, .int .i64 x103002_8, .int .i64 x103003_8, .string x103004_8, .string x103005_8]) ?_ 0 _ rfl; (with_reducible repeat (first | refine blk_drewN ?_ _ | refine blk_drew ?_ | refine blk_alloc ?_ _)); exact BK102.out) Tryd.underlying30 rfl (by kernel_rfl)) rfl ?_
                            exact ⟨by first | rfl | (simp [errW_none, errW_some] <;> rfl) | (simp only [← hji76]; first | rfl | (simp [errW_none, errW_some] <;> rfl)) | (simp [*, errW_none, errW_some] <;> rfl), by repeat (first | (with_reducible first | exact HB.out | apply below_alloc | apply pw_below_drewN | apply below_drew1 | refine below_set ?_ GE102.out | refine below_set ?_ GE108.out) | exact HB.out)⟩
                           ·rw [if_neg c81] at H
                            have c81b0 : decide (t122 < 0) = false := decide_eq_false c81
                            clear c81
                            by_cases c84 : t123 < 0
                            ·rw [if_pos c84] at H
                             have c84b0 : decide (t123 < 0) = true := decide_eq_true c84
                             clear c84
                             simp only [Option.some.injEq, Prod.mk.injEq] at H
                             obtain ⟨rfl, rfl, rfl, rfl, rfl, rfl, rfl⟩ := H
                             have p74 : 0 ≤ (x17_8 : Int) := of_decide_eq_true (by first | (with_reducible assumption) | assumption)
                             have q74 : x17_8 < (x6_53.size : Int) := of_decide_eq_true (by first | (with_reducible assumption) | assumption)
                             have hx74 := bt_at x6_53 x17_8
                             replace p74 := eq_true p74
                             replace q74 := eq_true q74
                             go_wp2_with (first | (go_at_call 19; (with_reducible refine (pannierref20_digit.calls k8 (bt x6_53 x17_8) t122 _ A75.out).mono ?_); rintro e w' ⟨rfl, ⟨nd, rfl⟩⟩; (try first | exact ⟨rfl, _, World.drewN_drewN _ _ _⟩ | exact ⟨rfl, _, Eq.trans (World.drewN_drewN _ _ _) (congrArg (World.drewN _) (Nat.add_assoc _ _ _))⟩); have p79 : 0 ≤ ((ji76) : Int) := of_decide_eq_true (by first | (with_reducible assumption) | assumption); have q79 : (ji76) < (x6_53.size : Int) := of_decide_eq_true (by first | (with_reducible assumption) | assumption); have hx79 := bt_at x6_53 (ji76); replace p79 := eq_true p79; replace q79 := eq_true q79) | (go_at_call 19; (with_reducible refine (pannierref20_digit.calls k8 (bt x6_53 (ji76)) t123 _ A80.out).mono ?_); rintro e w' ⟨rfl, ⟨nd, rfl⟩⟩; (try first | exact ⟨rfl, _, World.drewN_drewN _ _ _⟩ | exact ⟨rfl, _, Eq.trans (World.drewN_drewN _ _ _) (congrArg (World.drewN _) (Nat.add_assoc _ _ _))⟩); have hnb85 := NB102_108.out; have hnc85 := NB108_102.out; have hcz86_0 : wr.cell? ⟨gb102, 0, none⟩ = some (.int .i64 x103000_8) := (blk_cell BK102.out 0).trans rfl; have hcz86_1 : wr.cell? ⟨gb102, 1, none⟩ = some (.int .i64 x103001_8) := (blk_cell BK102.out 1).trans rfl; have hcz86_2 : wr.cell? ⟨gb102, 2, none⟩ = some (.int .i64 x103002_8) := (blk_cell BK102.out 2).trans rfl; have hcz86_3 : wr.cell? ⟨gb102, 3, none⟩ = some (.int .i64 x103003_8) := (blk_cell BK102.out 3).trans rfl; have hcz86_4 : wr.cell? ⟨gb102, 4, none⟩ = some (.string x103004_8) := (blk_cell BK102.out 4).trans rfl; have hcz86_5 : wr.cell? ⟨gb102, 5, none⟩ = some (.string x103005_8) := (blk_cell BK102.out 5).trans rfl; have hfz86_0 := blk_frozen BK102.out 0; have hfz86_1 := blk_frozen BK102.out 1; have hfz86_2 := blk_frozen BK102.out 2; have hfz86_3 := blk_frozen BK102.out 3; have hfz86_4 := blk_frozen BK102.out 4; have hfz86_5 := blk_frozen BK102.out 5))
                             repeat (go_quiet (first | (go_at_call 19; (with_reducible refine (pannierref20_digit.calls k8 (bt x6_53 x17_8) t122 _ A75.out).mono ?_); rintro e w' ⟨rfl, ⟨nd, rfl⟩⟩; (try first | exact ⟨rfl, _, World.drewN_drewN _ _ _⟩ | exact ⟨rfl, _, Eq.trans (World.drewN_drewN _ _ _) (congrArg (World.drewN _) (Nat.add_assoc _ _ _))⟩); have p79 : 0 ≤ ((ji76) : Int) := of_decide_eq_true (by first | (with_reducible assumption) | assumption); have q79 : (ji76) < (x6_53.size : Int) := of_decide_eq_true (by first | (with_reducible assumption) | assumption); have hx79 := bt_at x6_53 (ji76); replace p79 := eq_true p79; replace q79 := eq_true q79) | (go_at_call 19; (with_reducible refine (pannierref20_digit.calls k8 (bt x6_53 (ji76)) t123 _ A80.out).mono ?_); rintro e w' ⟨rfl, ⟨nd, rfl⟩⟩; (try first | exact ⟨rfl, _, World.drewN_drewN _ _ _⟩ | exact ⟨rfl, _, Eq.trans (World.drewN_drewN _ _ _) (congrArg (World.drewN _) (Nat.add_assoc _ _ _))⟩); have hnb85 := NB102_108.out; have hnc85 := NB108_102.out; have hcz86_0 : wr.cell? ⟨gb102, 0, none⟩ = some (.int .i64 x103000_8) := (blk_cell BK102.out 0).trans rfl; have hcz86_1 : wr.cell? ⟨gb102, 1, none⟩ = some (.int .i64 x103001_8) := (blk_cell BK102.out 1).trans rfl; have hcz86_2 : wr.cell? ⟨gb102, 2, none⟩ = some (.int .i64 x103002_8) := (blk_cell BK102.out 2).trans rfl; have hcz86_3 : wr.cell? ⟨gb102, 3, none⟩ = some (.int .i64 x103003_8) := (blk_cell BK102.out 3).trans rfl; have hcz86_4 : wr.cell? ⟨gb102, 4, none⟩ = some (.string x103004_8) := (blk_cell BK102.out 4).trans rfl; have hcz86_5 : wr.cell? ⟨gb102, 5, none⟩ = some (.string x103005_8) := (blk_cell BK102.out 5).trans rfl; have hfz86_0 := blk_frozen BK102.out 0; have hfz86_1 := blk_frozen BK102.out 1; have hfz86_2 := blk_frozen BK102.out 2; have hfz86_3 := blk_frozen BK102.out 3; have hfz86_4 := blk_frozen BK102.out 4; have hfz86_5 := blk_frozen BK102.out 5)); try go_wp2_with (first | (go_at_call 19; (with_reducible refine (pannierref20_digit.calls k8 (bt x6_53 x17_8) t122 _ A75.out).mono ?_); rintro e w' ⟨rfl, ⟨nd, rfl⟩⟩; (try first | exact ⟨rfl, _, World.drewN_drewN _ _ _⟩ | exact ⟨rfl, _, Eq.trans (World.drewN_drewN _ _ _) (congrArg (World.drewN _) (Nat.add_assoc _ _ _))⟩); have p79 : 0 ≤ ((ji76) : Int) := of_decide_eq_true (by first | (with_reducible assumption) | assumption); have q79 : (ji76) < (x6_53.size : Int) := of_decide_eq_true (by first | (with_reducible assumption) | assumption); have hx79 := bt_at x6_53 (ji76); replace p79 := eq_true p79; replace q79 := eq_true q79) | (go_at_call 19; (with_reducible refine (pannierref20_digit.calls k8 (bt x6_53 (ji76)) t123 _ A80.out).mono ?_); rintro e w' ⟨rfl, ⟨nd, rfl⟩⟩; (try first | exact ⟨rfl, _, World.drewN_drewN _ _ _⟩ | exact ⟨rfl, _, Eq.trans (World.drewN_drewN _ _ _) (congrArg (World.drewN _) (Nat.add_assoc _ _ _))⟩); have hnb85 := NB102_108.out; have hnc85 := NB108_102.out; have hcz86_0 : wr.cell? ⟨gb102, 0, none⟩ = some (.int .i64 x103000_8) := (blk_cell BK102.out 0).trans rfl; have hcz86_1 : wr.cell? ⟨gb102, 1, none⟩ = some (.int .i64 x103001_8) := (blk_cell BK102.out 1).trans rfl; have hcz86_2 : wr.cell? ⟨gb102, 2, none⟩ = some (.int .i64 x103002_8) := (blk_cell BK102.out 2).trans rfl; have hcz86_3 : wr.cell? ⟨gb102, 3, none⟩ = some (.int .i64 x103003_8) := (blk_cell BK102.out 3).trans rfl; have hcz86_4 : wr.cell? ⟨gb102, 4, none⟩ = some (.string x103004_8) := (blk_cell BK102.out 4).trans rfl; have hcz86_5 : wr.cell? ⟨gb102, 5, none⟩ = some (.string x103005_8) := (blk_cell BK102.out 5).trans rfl; have hfz86_0 := blk_frozen BK102.out 0; have hfz86_1 := blk_frozen BK102.out 1; have hfz86_2 := blk_frozen BK102.out 2; have hfz86_3 := blk_frozen BK102.out 3; have hfz86_4 := blk_frozen BK102.out 4; have hfz86_5 := blk_frozen BK102.out 5)))
                             refine bodyPost_ret (results_ct rfl _ _ gb102 30 #[.int .i64 0, .int .i64 0, .int .i64 0, .int .i64 0, .string (⟨#[]⟩ : ByteArray), .string (⟨#[]⟩ : ByteArray)] (0, 0) _ rfl (by (with_reducible repeat (first | refine blk_drewN ?_ _ | refine blk_drew ?_ | refine blk_alloc ?_ _)); refine blk_put (cs := #[.int .i64 0, .int .i64 0, .int .i64 0, .int .i64 0, .string (⟨#[]⟩ : ByteArray), .string x103005_8]) ?_ 5 _ rfl; (with_reducible repeat (first | refine blk_drewN ?_ _ | refine blk_drew ?_ | refine blk_alloc ?_ _)); refine blk_put (cs := #[.int .i64 0, .int .i64 0, .int .i64 0, .int .i64 0, .string x103004_8, .string x103005_8]) ?_ 4 _ rfl; (with_reducible repeat (first | refine blk_drewN ?_ _ | refine blk_drew ?_ | refine blk_alloc ?_ _)); refine blk_put (cs := #[.int .i64 0, .int .i64 0, .int .i64 0, .int .i64 x103003_8, .string x103004_8, .string x103005_8]) ?_ 3 _ rfl; (with_reducible repeat (first | refine blk_drewN ?_ _ | refine blk_drew ?_ | refine blk_alloc ?_ _)); refine blk_put (cs := #[.int .i64 0, .int .i64 0, .int .i64 x103002_8, .int .i64 x103003_8, .string x103004_8, .string x103005_8]) ?_ 2 _ rfl; (with_reducible repeat (first | refine blk_drewN ?_ _ | refine blk_drew ?_ | refine blk_alloc ?_ _)); refine blk_put (cs := #[.int .i64 0, .int .i64 x103001_8, .int .i64 x103002_8, .int .i64 x103003_8, .string x103004_8, .string x103005_8]) ?_ 1 _ rfl; (with_reducible repeat (first | refine blk_drewN ?_ _ | refine blk_drew ?_ | refine blk_alloc ?_ _)); refine blk_put (cs := #[.int .i64 x103000_8, .int .i64 x103001_8, .int .i64 x103002_8, .int .i64 x103003_8, .string x103004_8, .string x103005_8]) ?_ 0 _ rfl; (with_reducible repeat (first | refine blk_drewN ?_ _ | refine blk_drew ?_ | refine blk_alloc ?_ _)); exact BK102.out) Tryd.underlying30 rfl (by kernel_rfl)) rfl ?_
                             exact ⟨by first | rfl | (simp [errW_none, errW_some] <;> rfl) | (simp only [← hji76]; first | rfl | (simp [errW_none, errW_some] <;> rfl)) | (simp [*, errW_none, errW_some] <;> rfl), by repeat (first | (with_reducible first | exact HB.out | apply below_alloc | apply pw_below_drewN | apply below_drew1 | refine below_set ?_ GE102.out | refine below_set ?_ GE108.out) | exact HB.out)⟩
                            ·rw [if_neg c84] at H
                             have c84b0 : decide (t123 < 0) = false := decide_eq_false c84
                             clear c84
                             obtain ⟨y124, hy124⟩ : ∃ y_ : List Int, y_ = (([(wrap64 ((wrap64 (16 * t122)) + t123)) % 256] : List Int)) := ⟨_, rfl⟩
                             replace H : (if x109005_8.size + (strOfNums y124).size ≤ 9223372036854775807 then (pannierref20_Decode.l1 k8 x6_53 (wrap64 (x17_8 + 2)) x109000_1 x109001_23 x109002_41 x109003_53 (⟨#[]⟩ : ByteArray) (x109005_8 ++ (strOfNums y124))) else (none)) = some (r1, r2, r3, r4, r5, r6, r7) := by first | (rw [hy124]; with_reducible exact H) | (have H2_ := (Option.bind_some _ _).symm.trans H; rw [hy124]; with_reducible exact H2_) | (have H2_ := (Option.bind_some _ _).symm.trans H; with_reducible exact H2_) | with_reducible exact H | (rw [hy124]; exact H) | exact H
                             have Ny124 := Aside0.mk hy124
                             clear hy124
                             by_cases c87 : x109005_8.size + (strOfNums y124).size ≤ 9223372036854775807
                             ·rw [if_pos c87] at H
                              have c87b0 := eq_true c87
                              have c87b1 : decide (x109005_8.size + (strOfNums y124).size ≤ 9223372036854775807) = true := decide_eq_true c87
                              try have c87b2 : (9223372036854775807 < x109005_8.size + (strOfNums y124).size) = False := eq_false (Nat.not_lt.2 c87)
                              have H' := Aside0.mk H
                              clear H
                              have p74 : 0 ≤ (x17_8 : Int) := of_decide_eq_true (by first | (with_reducible assumption) | assumption)
                              have q74 : x17_8 < (x6_53.size : Int) := of_decide_eq_true (by first | (with_reducible assumption) | assumption)
                              have hx74 := bt_at x6_53 x17_8
                              replace p74 := eq_true p74
                              replace q74 := eq_true q74
                              go_wp2_with (first | (go_at_call 19; (with_reducible refine (pannierref20_digit.calls k8 (bt x6_53 x17_8) t122 _ A75.out).mono ?_); rintro e w' ⟨rfl, ⟨nd, rfl⟩⟩; (try first | exact ⟨rfl, _, World.drewN_drewN _ _ _⟩ | exact ⟨rfl, _, Eq.trans (World.drewN_drewN _ _ _) (congrArg (World.drewN _) (Nat.add_assoc _ _ _))⟩); have p79 : 0 ≤ ((ji76) : Int) := of_decide_eq_true (by first | (with_reducible assumption) | assumption); have q79 : (ji76) < (x6_53.size : Int) := of_decide_eq_true (by first | (with_reducible assumption) | assumption); have hx79 := bt_at x6_53 (ji76); replace p79 := eq_true p79; replace q79 := eq_true q79) | (go_at_call 19; (with_reducible refine (pannierref20_digit.calls k8 (bt x6_53 (ji76)) t123 _ A80.out).mono ?_); rintro e w' ⟨rfl, ⟨nd, rfl⟩⟩; (try first | exact ⟨rfl, _, World.drewN_drewN _ _ _⟩ | exact ⟨rfl, _, Eq.trans (World.drewN_drewN _ _ _) (congrArg (World.drewN _) (Nat.add_assoc _ _ _))⟩); have hnb88 := NB108_102.out; have hnc88 := NB102_108.out; have hcz89_0 : wr.cell? ⟨gb108, 0, none⟩ = some (.int .i64 x109000_1) := (blk_cell BK108.out 0).trans rfl; have hcz89_1 : wr.cell? ⟨gb108, 1, none⟩ = some (.int .i64 x109001_23) := (blk_cell BK108.out 1).trans rfl; have hcz89_2 : wr.cell? ⟨gb108, 2, none⟩ = some (.int .i64 x109002_41) := (blk_cell BK108.out 2).trans rfl; have hcz89_3 : wr.cell? ⟨gb108, 3, none⟩ = some (.int .i64 x109003_53) := (blk_cell BK108.out 3).trans rfl; have hcz89_4 : wr.cell? ⟨gb108, 4, none⟩ = some (.string (⟨#[]⟩ : ByteArray)) := (blk_cell BK108.out 4).trans rfl; have hcz89_5 : wr.cell? ⟨gb108, 5, none⟩ = some (.string x109005_8) := (blk_cell BK108.out 5).trans rfl; have hfz89_0 := blk_frozen BK108.out 0; have hfz89_1 := blk_frozen BK108.out 1; have hfz89_2 := blk_frozen BK108.out 2; have hfz89_3 := blk_frozen BK108.out 3; have hfz89_4 := blk_frozen BK108.out 4; have hfz89_5 := blk_frozen BK108.out 5) | ((with_reducible refine gate_dst (N := 171) rfl ?_); refine Kd.R_lit (Kd.int .u8) _ 5 ?hg (N := 171) ?hd (xs := ([(wrap64 ((wrap64 (16 * t122)) + t123)) % 256] : List Int)) (inner := [.int .u8 ((wrap64 ((wrap64 (16 * t122)) + t123)) % 256)]) (ok := fun _ => True) (okp := fun _ => True) ?hr ?hp (fun _ hk => hk) trivial (Below.refl _ _) (Nat.le_refl _) (by simp) ?_; (case hd => rfl); (case hg => rfl); (case hr => first | (go_simp; done) | (go_simp; rfl)); (case hp => exact (Reps.one (show Kd.M (Kd.int .u8) _ _ _ ((wrap64 ((wrap64 (16 * t122)) + t123)) % 256) [.int .u8 ((wrap64 ((wrap64 (16 * t122)) + t123)) % 256)] from rfl) (Reps.none _ _))); intro v125 w90 ho91 hb hg_ hnew_; clear hg_ hnew_; (first | rw [← Ny124.out] at ho91 | (simp only [Int.reduceToNat] at ho91; rw [← Ny124.out] at ho91)); have n0_ := Aside0.mk (Kd.R_lower ho91 (below_size (by repeat (first | (with_reducible first | exact HB.out | apply below_alloc | apply pw_below_drewN | apply below_drew1 | refine below_set ?_ GE102.out | refine below_set ?_ GE108.out) | exact HB.out)))); have n1_ := Aside0.mk (blk_below (g := gb102) (o := .cells #[.int .i64 x103000_8, .int .i64 x103001_8, .int .i64 x103002_8, .int .i64 x103003_8, .string x103004_8, .string x103005_8] 30 (0, 0)) (by (with_reducible repeat (first | refine blk_drewN ?_ _ | refine blk_drew ?_ | refine blk_alloc ?_ _)); exact BK102.out) hb); have n2_ := Aside0.mk (blk_below (g := gb108) (o := .cells #[.int .i64 x109000_1, .int .i64 x109001_23, .int .i64 x109002_41, .int .i64 x109003_53, .string (⟨#[]⟩ : ByteArray), .string x109005_8] 30 (0, 0)) (by (with_reducible repeat (first | refine blk_drewN ?_ _ | refine blk_drew ?_ | refine blk_alloc ?_ _)); exact BK108.out) hb); have n3_ := Aside0.mk (below_step (by repeat (first | (with_reducible first | exact HB.out | apply below_alloc | apply pw_below_drewN | apply below_drew1 | refine below_set ?_ GE102.out | refine below_set ?_ GE108.out) | exact HB.out)) hb); clear BK102; clear BK108; clear HB; have HO126 := n0_; have BK102 := n1_; have BK108 := n2_; have HB := n3_; clear n0_ n1_ n2_ n3_; clear hb ho91; have hcv92 := own_string (P := Tryd.prog) Tryd.underlying23 Tryd.underlying5 Tryd.underlying9 (Kd.own_of_R HO126.out); have hcv93 := r_string_d (P := Tryd.prog) Tryd.underlying23 Tryd.underlying5 Tryd.underlying9 HO126.out; (try (have hcv94 := fun u0_ u1_ u2_ u3_ u4_ u5_ => own_string (P := Tryd.prog) Tryd.underlying23 Tryd.underlying5 Tryd.underlying9 (ownsRow_setCell_other (a := ⟨gb102, 5, none⟩) (ownsRow_setCell_other (a := ⟨gb102, 4, none⟩) (ownsRow_setCell_other (a := ⟨gb102, 3, none⟩) (ownsRow_setCell_other (a := ⟨gb102, 2, none⟩) (ownsRow_setCell_other (a := ⟨gb102, 1, none⟩) (ownsRow_setCell_other (a := ⟨gb102, 0, none⟩) (Kd.own_of_R HO126.out) (Ne.symm (Kd.R_ne HO126.out BK102.out (by decide))) u0_) (Ne.symm (Kd.R_ne HO126.out BK102.out (by decide))) u1_) (Ne.symm (Kd.R_ne HO126.out BK102.out (by decide))) u2_) (Ne.symm (Kd.R_ne HO126.out BK102.out (by decide))) u3_) (Ne.symm (Kd.R_ne HO126.out BK102.out (by decide))) u4_) (Ne.symm (Kd.R_ne HO126.out BK102.out (by decide))) u5_))); (try (have hcv95 := fun u0_ u1_ u2_ u3_ u4_ u5_ => own_string (P := Tryd.prog) Tryd.underlying23 Tryd.underlying5 Tryd.underlying9 (ownsRow_setCell_other (a := ⟨gb108, 5, none⟩) (ownsRow_setCell_other (a := ⟨gb108, 4, none⟩) (ownsRow_setCell_other (a := ⟨gb108, 3, none⟩) (ownsRow_setCell_other (a := ⟨gb108, 2, none⟩) (ownsRow_setCell_other (a := ⟨gb108, 1, none⟩) (ownsRow_setCell_other (a := ⟨gb108, 0, none⟩) (Kd.own_of_R HO126.out) (Ne.symm (Kd.R_ne HO126.out BK108.out (by decide))) u0_) (Ne.symm (Kd.R_ne HO126.out BK108.out (by decide))) u1_) (Ne.symm (Kd.R_ne HO126.out BK108.out (by decide))) u2_) (Ne.symm (Kd.R_ne HO126.out BK108.out (by decide))) u3_) (Ne.symm (Kd.R_ne HO126.out BK108.out (by decide))) u4_) (Ne.symm (Kd.R_ne HO126.out BK108.out (by decide))) u5_))); have hcz96_0 : w90.cell? ⟨gb108, 0, none⟩ = some (.int .i64 x109000_1) := (blk_cell BK108.out 0).trans rfl; have hcz96_1 : w90.cell? ⟨gb108, 1, none⟩ = some (.int .i64 x109001_23) := (blk_cell BK108.out 1).trans rfl; have hcz96_2 : w90.cell? ⟨gb108, 2, none⟩ = some (.int .i64 x109002_41) := (blk_cell BK108.out 2).trans rfl; have hcz96_3 : w90.cell? ⟨gb108, 3, none⟩ = some (.int .i64 x109003_53) := (blk_cell BK108.out 3).trans rfl; have hcz96_4 : w90.cell? ⟨gb108, 4, none⟩ = some (.string (⟨#[]⟩ : ByteArray)) := (blk_cell BK108.out 4).trans rfl; have hcz96_5 : w90.cell? ⟨gb108, 5, none⟩ = some (.string x109005_8) := (blk_cell BK108.out 5).trans rfl; have hfz96_0 := blk_frozen BK108.out 0; have hfz96_1 := blk_frozen BK108.out 1; have hfz96_2 := blk_frozen BK108.out 2; have hfz96_3 := blk_frozen BK108.out 3; have hfz96_4 := blk_frozen BK108.out 4; have hfz96_5 := blk_frozen BK108.out 5))
                              repeat (go_quiet (first | (go_at_call 19; (with_reducible refine (pannierref20_digit.calls k8 (bt x6_53 x17_8) t122 _ A75.out).mono ?_); rintro e w' ⟨rfl, ⟨nd, rfl⟩⟩; (try first | exact ⟨rfl, _, World.drewN_drewN _ _ _⟩ | exact ⟨rfl, _, Eq.trans (World.drewN_drewN _ _ _) (congrArg (World.drewN _) (Nat.add_assoc _ _ _))⟩); have p79 : 0 ≤ ((ji76) : Int) := of_decide_eq_true (by first | (with_reducible assumption) | assumption); have q79 : (ji76) < (x6_53.size : Int) := of_decide_eq_true (by first | (with_reducible assumption) | assumption); have hx79 := bt_at x6_53 (ji76); replace p79 := eq_true p79; replace q79 := eq_true q79) | (go_at_call 19; (with_reducible refine (pannierref20_digit.calls k8 (bt x6_53 (ji76)) t123 _ A80.out).mono ?_); rintro e w' ⟨rfl, ⟨nd, rfl⟩⟩; (try first | exact ⟨rfl, _, World.drewN_drewN _ _ _⟩ | exact ⟨rfl, _, Eq.trans (World.drewN_drewN _ _ _) (congrArg (World.drewN _) (Nat.add_assoc _ _ _))⟩); have hnb88 := NB108_102.out; have hnc88 := NB102_108.out; have hcz89_0 : wr.cell? ⟨gb108, 0, none⟩ = some (.int .i64 x109000_1) := (blk_cell BK108.out 0).trans rfl; have hcz89_1 : wr.cell? ⟨gb108, 1, none⟩ = some (.int .i64 x109001_23) := (blk_cell BK108.out 1).trans rfl; have hcz89_2 : wr.cell? ⟨gb108, 2, none⟩ = some (.int .i64 x109002_41) := (blk_cell BK108.out 2).trans rfl; have hcz89_3 : wr.cell? ⟨gb108, 3, none⟩ = some (.int .i64 x109003_53) := (blk_cell BK108.out 3).trans rfl; have hcz89_4 : wr.cell? ⟨gb108, 4, none⟩ = some (.string (⟨#[]⟩ : ByteArray)) := (blk_cell BK108.out 4).trans rfl; have hcz89_5 : wr.cell? ⟨gb108, 5, none⟩ = some (.string x109005_8) := (blk_cell BK108.out 5).trans rfl; have hfz89_0 := blk_frozen BK108.out 0; have hfz89_1 := blk_frozen BK108.out 1; have hfz89_2 := blk_frozen BK108.out 2; have hfz89_3 := blk_frozen BK108.out 3; have hfz89_4 := blk_frozen BK108.out 4; have hfz89_5 := blk_frozen BK108.out 5) | ((with_reducible refine gate_dst (N := 171) rfl ?_); refine Kd.R_lit (Kd.int .u8) _ 5 ?hg (N := 171) ?hd (xs := ([(wrap64 ((wrap64 (16 * t122)) + t123)) % 256] : List Int)) (inner := [.int .u8 ((wrap64 ((wrap64 (16 * t122)) + t123)) % 256)]) (ok := fun _ => True) (okp := fun _ => True) ?hr ?hp (fun _ hk => hk) trivial (Below.refl _ _) (Nat.le_refl _) (by simp) ?_; (case hd => rfl); (case hg => rfl); (case hr => first | (go_simp; done) | (go_simp; rfl)); (case hp => exact (Reps.one (show Kd.M (Kd.int .u8) _ _ _ ((wrap64 ((wrap64 (16 * t122)) + t123)) % 256) [.int .u8 ((wrap64 ((wrap64 (16 * t122)) + t123)) % 256)] from rfl) (Reps.none _ _))); intro v125 w90 ho91 hb hg_ hnew_; clear hg_ hnew_; (first | rw [← Ny124.out] at ho91 | (simp only [Int.reduceToNat] at ho91; rw [← Ny124.out] at ho91)); have n0_ := Aside0.mk (Kd.R_lower ho91 (below_size (by repeat (first | (with_reducible first | exact HB.out | apply below_alloc | apply pw_below_drewN | apply below_drew1 | refine below_set ?_ GE102.out | refine below_set ?_ GE108.out) | exact HB.out)))); have n1_ := Aside0.mk (blk_below (g := gb102) (o := .cells #[.int .i64 x103000_8, .int .i64 x103001_8, .int .i64 x103002_8, .int .i64 x103003_8, .string x103004_8, .string x103005_8] 30 (0, 0)) (by (with_reducible repeat (first | refine blk_drewN ?_ _ | refine blk_drew ?_ | refine blk_alloc ?_ _)); exact BK102.out) hb); have n2_ := Aside0.mk (blk_below (g := gb108) (o := .cells #[.int .i64 x109000_1, .int .i64 x109001_23, .int .i64 x109002_41, .int .i64 x109003_53, .string (⟨#[]⟩ : ByteArray), .string x109005_8] 30 (0, 0)) (by (with_reducible repeat (first | refine blk_drewN ?_ _ | refine blk_drew ?_ | refine blk_alloc ?_ _)); exact BK108.out) hb); have n3_ := Aside0.mk (below_step (by repeat (first | (with_reducible first | exact HB.out | apply below_alloc | apply pw_below_drewN | apply below_drew1 | refine below_set ?_ GE102.out | refine below_set ?_ GE108.out) | exact HB.out)) hb); clear BK102; clear BK108; clear HB; have HO126 := n0_; have BK102 := n1_; have BK108 := n2_; have HB := n3_; clear n0_ n1_ n2_ n3_; clear hb ho91; have hcv92 := own_string (P := Tryd.prog) Tryd.underlying23 Tryd.underlying5 Tryd.underlying9 (Kd.own_of_R HO126.out); have hcv93 := r_string_d (P := Tryd.prog) Tryd.underlying23 Tryd.underlying5 Tryd.underlying9 HO126.out; (try (have hcv94 := fun u0_ u1_ u2_ u3_ u4_ u5_ => own_string (P := Tryd.prog) Tryd.underlying23 Tryd.underlying5 Tryd.underlying9 (ownsRow_setCell_other (a := ⟨gb102, 5, none⟩) (ownsRow_setCell_other (a := ⟨gb102, 4, none⟩) (ownsRow_setCell_other (a := ⟨gb102, 3, none⟩) (ownsRow_setCell_other (a := ⟨gb102, 2, none⟩) (ownsRow_setCell_other (a := ⟨gb102, 1, none⟩) (ownsRow_setCell_other (a := ⟨gb102, 0, none⟩) (Kd.own_of_R HO126.out) (Ne.symm (Kd.R_ne HO126.out BK102.out (by decide))) u0_) (Ne.symm (Kd.R_ne HO126.out BK102.out (by decide))) u1_) (Ne.symm (Kd.R_ne HO126.out BK102.out (by decide))) u2_) (Ne.symm (Kd.R_ne HO126.out BK102.out (by decide))) u3_) (Ne.symm (Kd.R_ne HO126.out BK102.out (by decide))) u4_) (Ne.symm (Kd.R_ne HO126.out BK102.out (by decide))) u5_))); (try (have hcv95 := fun u0_ u1_ u2_ u3_ u4_ u5_ => own_string (P := Tryd.prog) Tryd.underlying23 Tryd.underlying5 Tryd.underlying9 (ownsRow_setCell_other (a := ⟨gb108, 5, none⟩) (ownsRow_setCell_other (a := ⟨gb108, 4, none⟩) (ownsRow_setCell_other (a := ⟨gb108, 3, none⟩) (ownsRow_setCell_other (a := ⟨gb108, 2, none⟩) (ownsRow_setCell_other (a := ⟨gb108, 1, none⟩) (ownsRow_setCell_other (a := ⟨gb108, 0, none⟩) (Kd.own_of_R HO126.out) (Ne.symm (Kd.R_ne HO126.out BK108.out (by decide))) u0_) (Ne.symm (Kd.R_ne HO126.out BK108.out (by decide))) u1_) (Ne.symm (Kd.R_ne HO126.out BK108.out (by decide))) u2_) (Ne.symm (Kd.R_ne HO126.out BK108.out (by decide))) u3_) (Ne.symm (Kd.R_ne HO126.out BK108.out (by decide))) u4_) (Ne.symm (Kd.R_ne HO126.out BK108.out (by decide))) u5_))); have hcz96_0 : w90.cell? ⟨gb108, 0, none⟩ = some (.int .i64 x109000_1) := (blk_cell BK108.out 0).trans rfl; have hcz96_1 : w90.cell? ⟨gb108, 1, none⟩ = some (.int .i64 x109001_23) := (blk_cell BK108.out 1).trans rfl; have hcz96_2 : w90.cell? ⟨gb108, 2, none⟩ = some (.int .i64 x109002_41) := (blk_cell BK108.out 2).trans rfl; have hcz96_3 : w90.cell? ⟨gb108, 3, none⟩ = some (.int .i64 x109003_53) := (blk_cell BK108.out 3).trans rfl; have hcz96_4 : w90.cell? ⟨gb108, 4, none⟩ = some (.string (⟨#[]⟩ : ByteArray)) := (blk_cell BK108.out 4).trans rfl; have hcz96_5 : w90.cell? ⟨gb108, 5, none⟩ = some (.string x109005_8) := (blk_cell BK108.out 5).trans rfl; have hfz96_0 := blk_frozen BK108.out 0; have hfz96_1 := blk_frozen BK108.out 1; have hfz96_2 := blk_frozen BK108.out 2; have hfz96_3 := blk_frozen BK108.out 3; have hfz96_4 := blk_frozen BK108.out 4; have hfz96_5 := blk_frozen BK108.out 5)); try go_wp2_with (first | (go_at_call 19; (with_reducible refine (pannierref20_digit.calls k8 (bt x6_53 x17_8) t122 _ A75.out).mono ?_); rintro e w' ⟨rfl, ⟨nd, rfl⟩⟩; (try first | exact ⟨rfl, _, World.drewN_drewN _ _ _⟩ | exact ⟨rfl, _, Eq.trans (World.drewN_drewN _ _ _) (congrArg (World.drewN _) (Nat.add_assoc _ _ _))⟩); have p79 : 0 ≤ ((ji76) : Int) := of_decide_eq_true (by first | (with_reducible assumption) | assumption); have q79 : (ji76) < (x6_53.size : Int) := of_decide_eq_true (by first | (with_reducible assumption) | assumption); have hx79 := bt_at x6_53 (ji76); replace p79 := eq_true p79; replace q79 := eq_true q79) | (go_at_call 19; (with_reducible refine (pannierref20_digit.calls k8 (bt x6_53 (ji76)) t123 _ A80.out).mono ?_); rintro e w' ⟨rfl, ⟨nd, rfl⟩⟩; (try first | exact ⟨rfl, _, World.drewN_drewN _ _ _⟩ | exact ⟨rfl, _, Eq.trans (World.drewN_drewN _ _ _) (congrArg (World.drewN _) (Nat.add_assoc _ _ _))⟩); have hnb88 := NB108_102.out; have hnc88 := NB102_108.out; have hcz89_0 : wr.cell? ⟨gb108, 0, none⟩ = some (.int .i64 x109000_1) := (blk_cell BK108.out 0).trans rfl; have hcz89_1 : wr.cell? ⟨gb108, 1, none⟩ = some (.int .i64 x109001_23) := (blk_cell BK108.out 1).trans rfl; have hcz89_2 : wr.cell? ⟨gb108, 2, none⟩ = some (.int .i64 x109002_41) := (blk_cell BK108.out 2).trans rfl; have hcz89_3 : wr.cell? ⟨gb108, 3, none⟩ = some (.int .i64 x109003_53) := (blk_cell BK108.out 3).trans rfl; have hcz89_4 : wr.cell? ⟨gb108, 4, none⟩ = some (.string (⟨#[]⟩ : ByteArray)) := (blk_cell BK108.out 4).trans rfl; have hcz89_5 : wr.cell? ⟨gb108, 5, none⟩ = some (.string x109005_8) := (blk_cell BK108.out 5).trans rfl; have hfz89_0 := blk_frozen BK108.out 0; have hfz89_1 := blk_frozen BK108.out 1; have hfz89_2 := blk_frozen BK108.out 2; have hfz89_3 := blk_frozen BK108.out 3; have hfz89_4 := blk_frozen BK108.out 4; have hfz89_5 := blk_frozen BK108.out 5) | ((with_reducible refine gate_dst (N := 171) rfl ?_); refine Kd.R_lit (Kd.int .u8) _ 5 ?hg (N := 171) ?hd (xs := ([(wrap64 ((wrap64 (16 * t122)) + t123)) % 256] : List Int)) (inner := [.int .u8 ((wrap64 ((wrap64 (16 * t122)) + t123)) % 256)]) (ok := fun _ => True) (okp := fun _ => True) ?hr ?hp (fun _ hk => hk) trivial (Below.refl _ _) (Nat.le_refl _) (by simp) ?_; (case hd => rfl); (case hg => rfl); (case hr => first | (go_simp; done) | (go_simp; rfl)); (case hp => exact (Reps.one (show Kd.M (Kd.int .u8) _ _ _ ((wrap64 ((wrap64 (16 * t122)) + t123)) % 256) [.int .u8 ((wrap64 ((wrap64 (16 * t122)) + t123)) % 256)] from rfl) (Reps.none _ _))); intro v125 w90 ho91 hb hg_ hnew_; clear hg_ hnew_; (first | rw [← Ny124.out] at ho91 | (simp only [Int.reduceToNat] at ho91; rw [← Ny124.out] at ho91)); have n0_ := Aside0.mk (Kd.R_lower ho91 (below_size (by repeat (first | (with_reducible first | exact HB.out | apply below_alloc | apply pw_below_drewN | apply below_drew1 | refine below_set ?_ GE102.out | refine below_set ?_ GE108.out) | exact HB.out)))); have n1_ := Aside0.mk (blk_below (g := gb102) (o := .cells #[.int .i64 x103000_8, .int .i64 x103001_8, .int .i64 x103002_8, .int .i64 x103003_8, .string x103004_8, .string x103005_8] 30 (0, 0)) (by (with_reducible repeat (first | refine blk_drewN ?_ _ | refine blk_drew ?_ | refine blk_alloc ?_ _)); exact BK102.out) hb); have n2_ := Aside0.mk (blk_below (g := gb108) (o := .cells #[.int .i64 x109000_1, .int .i64 x109001_23, .int .i64 x109002_41, .int .i64 x109003_53, .string (⟨#[]⟩ : ByteArray), .string x109005_8] 30 (0, 0)) (by (with_reducible repeat (first | refine blk_drewN ?_ _ | refine blk_drew ?_ | refine blk_alloc ?_ _)); exact BK108.out) hb); have n3_ := Aside0.mk (below_step (by repeat (first | (with_reducible first | exact HB.out | apply below_alloc | apply pw_below_drewN | apply below_drew1 | refine below_set ?_ GE102.out | refine below_set ?_ GE108.out) | exact HB.out)) hb); clear BK102; clear BK108; clear HB; have HO126 := n0_; have BK102 := n1_; have BK108 := n2_; have HB := n3_; clear n0_ n1_ n2_ n3_; clear hb ho91; have hcv92 := own_string (P := Tryd.prog) Tryd.underlying23 Tryd.underlying5 Tryd.underlying9 (Kd.own_of_R HO126.out); have hcv93 := r_string_d (P := Tryd.prog) Tryd.underlying23 Tryd.underlying5 Tryd.underlying9 HO126.out; (try (have hcv94 := fun u0_ u1_ u2_ u3_ u4_ u5_ => own_string (P := Tryd.prog) Tryd.underlying23 Tryd.underlying5 Tryd.underlying9 (ownsRow_setCell_other (a := ⟨gb102, 5, none⟩) (ownsRow_setCell_other (a := ⟨gb102, 4, none⟩) (ownsRow_setCell_other (a := ⟨gb102, 3, none⟩) (ownsRow_setCell_other (a := ⟨gb102, 2, none⟩) (ownsRow_setCell_other (a := ⟨gb102, 1, none⟩) (ownsRow_setCell_other (a := ⟨gb102, 0, none⟩) (Kd.own_of_R HO126.out) (Ne.symm (Kd.R_ne HO126.out BK102.out (by decide))) u0_) (Ne.symm (Kd.R_ne HO126.out BK102.out (by decide))) u1_) (Ne.symm (Kd.R_ne HO126.out BK102.out (by decide))) u2_) (Ne.symm (Kd.R_ne HO126.out BK102.out (by decide))) u3_) (Ne.symm (Kd.R_ne HO126.out BK102.out (by decide))) u4_) (Ne.symm (Kd.R_ne HO126.out BK102.out (by decide))) u5_))); (try (have hcv95 := fun u0_ u1_ u2_ u3_ u4_ u5_ => own_string (P := Tryd.prog) Tryd.underlying23 Tryd.underlying5 Tryd.underlying9 (ownsRow_setCell_other (a := ⟨gb108, 5, none⟩) (ownsRow_setCell_other (a := ⟨gb108, 4, none⟩) (ownsRow_setCell_other (a := ⟨gb108, 3, none⟩) (ownsRow_setCell_other (a := ⟨gb108, 2, none⟩) (ownsRow_setCell_other (a := ⟨gb108, 1, none⟩) (ownsRow_setCell_other (a := ⟨gb108, 0, none⟩) (Kd.own_of_R HO126.out) (Ne.symm (Kd.R_ne HO126.out BK108.out (by decide))) u0_) (Ne.symm (Kd.R_ne HO126.out BK108.out (by decide))) u1_) (Ne.symm (Kd.R_ne HO126.out BK108.out (by decide))) u2_) (Ne.symm (Kd.R_ne HO126.out BK108.out (by decide))) u3_) (Ne.symm (Kd.R_ne HO126.out BK108.out (by decide))) u4_) (Ne.symm (Kd.R_ne HO126.out BK108.out (by decide))) u5_))); have hcz96_0 : w90.cell? ⟨gb108, 0, none⟩ = some (.int .i64 x109000_1) := (blk_cell BK108.out 0).trans rfl; have hcz96_1 : w90.cell? ⟨gb108, 1, none⟩ = some (.int .i64 x109001_23) := (blk_cell BK108.out 1).trans rfl; have hcz96_2 : w90.cell? ⟨gb108, 2, none⟩ = some (.int .i64 x109002_41) := (blk_cell BK108.out 2).trans rfl; have hcz96_3 : w90.cell? ⟨gb108, 3, none⟩ = some (.int .i64 x109003_53) := (blk_cell BK108.out 3).trans rfl; have hcz96_4 : w90.cell? ⟨gb108, 4, none⟩ = some (.string (⟨#[]⟩ : ByteArray)) := (blk_cell BK108.out 4).trans rfl; have hcz96_5 : w90.cell? ⟨gb108, 5, none⟩ = some (.string x109005_8) := (blk_cell BK108.out 5).trans rfl; have hfz96_0 := blk_frozen BK108.out 0; have hfz96_1 := blk_frozen BK108.out 1; have hfz96_2 := blk_frozen BK108.out 2; have hfz96_3 := blk_frozen BK108.out 3; have hfz96_4 := blk_frozen BK108.out 4; have hfz96_5 := blk_frozen BK108.out 5)))
                              go_roundg k8
                              case measure => have := HK1.out; have := HJ23.out; have := HJ36.out; have := HJ41.out; have := HJ51.out; have := HJ53.out; have := HJ63.out; have := HK8.out; omega
                              case rel => exact ⟨(wrap64 (x17_8 + 2)), (x103000_8), (x103001_8), (x103002_8), (x103003_8), (x103004_8), (x103005_8), (x109005_8 ++ (strOfNums y124)), (by first | rfl | (simp; done) | (simp; exact (fun l_ : List UInt8 => (by cases l_ <;> rfl : l_.isEmpty = !(l_ != []))) _) | (simp [*]; done)), H', ⟨by have := HK1.out; have := HJ23.out; have := HJ36.out; have := HJ41.out; have := HJ51.out; have := HJ53.out; have := HJ63.out; have := HK8.out; omega⟩, ⟨by (with_reducible repeat (first | refine blk_drewN ?_ _ | refine blk_drew ?_ | refine blk_alloc ?_ _)); refine blk_far ?_ NB102_108.out _; (with_reducible repeat (first | refine blk_drewN ?_ _ | refine blk_drew ?_ | refine blk_alloc ?_ _)); exact BK102.out⟩, ⟨by (with_reducible repeat (first | refine blk_drewN ?_ _ | refine blk_drew ?_ | refine blk_alloc ?_ _)); refine blk_put (cs := #[.int .i64 x109000_1, .int .i64 x109001_23, .int .i64 x109002_41, .int .i64 x109003_53, .string (⟨#[]⟩ : ByteArray), .string x109005_8]) ?_ 5 _ rfl; (with_reducible repeat (first | refine blk_drewN ?_ _ | refine blk_drew ?_ | refine blk_alloc ?_ _)); exact BK108.out⟩, ⟨by repeat (first | (with_reducible first | exact HB.out | apply below_alloc | apply pw_below_drewN | apply below_drew1 | refine below_set ?_ GE102.out | refine below_set ?_ GE108.out) | exact HB.out)⟩⟩
                             ·rw [if_neg c87] at H
                              exact absurd H (by simp)
                          ·rw [if_neg c78] at H
                           exact absurd H (by simp)
                         ·rw [if_neg c77] at H
                          exact absurd H (by simp)
                        ·rw [if_neg c73] at H
                         exact absurd H (by simp)
                       ·rw [if_neg c72] at H
                        have c72b0 : decide (x17_8 < (x6_53.size : Int)) = false := decide_eq_false c72
                        clear c72
                        simp only [Option.some.injEq, Prod.mk.injEq] at H
                        obtain ⟨rfl, rfl, rfl, rfl, rfl, rfl, rfl⟩ := H
                        have hnb97 := NB108_102.out
                        have hnc97 := NB102_108.out
                        have hcz98_0 : wr.cell? ⟨gb108, 0, none⟩ = some (.int .i64 x109000_1) := (blk_cell BK108.out 0).trans rfl
                        have hcz98_1 : wr.cell? ⟨gb108, 1, none⟩ = some (.int .i64 x109001_23) := (blk_cell BK108.out 1).trans rfl
                        have hcz98_2 : wr.cell? ⟨gb108, 2, none⟩ = some (.int .i64 x109002_41) := (blk_cell BK108.out 2).trans rfl
                        have hcz98_3 : wr.cell? ⟨gb108, 3, none⟩ = some (.int .i64 x109003_53) := (blk_cell BK108.out 3).trans rfl
                        have hcz98_4 : wr.cell? ⟨gb108, 4, none⟩ = some (.string (⟨#[]⟩ : ByteArray)) := (blk_cell BK108.out 4).trans rfl
                        have hcz98_5 : wr.cell? ⟨gb108, 5, none⟩ = some (.string x109005_8) := (blk_cell BK108.out 5).trans rfl
                        have hfz98_0 := blk_frozen BK108.out 0
                        have hfz98_1 := blk_frozen BK108.out 1
                        have hfz98_2 := blk_frozen BK108.out 2
                        have hfz98_3 := blk_frozen BK108.out 3
                        have hfz98_4 := blk_frozen BK108.out 4
                        have hfz98_5 := blk_frozen BK108.out 5
                        have hcz99_0 : wr.cell? ⟨gb102, 0, none⟩ = some (.int .i64 x103000_8) := (blk_cell BK102.out 0).trans rfl
                        have hcz99_1 : wr.cell? ⟨gb102, 1, none⟩ = some (.int .i64 x103001_8) := (blk_cell BK102.out 1).trans rfl
                        have hcz99_2 : wr.cell? ⟨gb102, 2, none⟩ = some (.int .i64 x103002_8) := (blk_cell BK102.out 2).trans rfl
                        have hcz99_3 : wr.cell? ⟨gb102, 3, none⟩ = some (.int .i64 x103003_8) := (blk_cell BK102.out 3).trans rfl
                        have hcz99_4 : wr.cell? ⟨gb102, 4, none⟩ = some (.string x103004_8) := (blk_cell BK102.out 4).trans rfl
                        have hcz99_5 : wr.cell? ⟨gb102, 5, none⟩ = some (.string x103005_8) := (blk_cell BK102.out 5).trans rfl
                        have hfz99_0 := blk_frozen BK102.out 0
                        have hfz99_1 := blk_frozen BK102.out 1
                        have hfz99_2 := blk_frozen BK102.out 2
                        have hfz99_3 := blk_frozen BK102.out 3
                        have hfz99_4 := blk_frozen BK102.out 4
                        have hfz99_5 := blk_frozen BK102.out 5
                        go_wp2
                        repeat (go_quiet (fail); try go_wp2)
                        refine bodyPost_ret (results_ct rfl _ _ gb102 30 #[.int .i64 x109000_1, .int .i64 x109001_23, .int .i64 x109002_41, .int .i64 x109003_53, .string (⟨#[]⟩ : ByteArray), .string x109005_8] (0, 0) _ rfl (by (with_reducible repeat (first | refine blk_drewN ?_ _ | refine blk_drew ?_ | refine blk_alloc ?_ _)); refine blk_put (cs := #[.int .i64 x109000_1, .int .i64 x109001_23, .int .i64 x109002_41, .int .i64 x109003_53, .string (⟨#[]⟩ : ByteArray), .string x103005_8]) ?_ 5 _ rfl; (with_reducible repeat (first | refine blk_drewN ?_ _ | refine blk_drew ?_ | refine blk_alloc ?_ _)); refine blk_put (cs := #[.int .i64 x109000_1, .int .i64 x109001_23, .int .i64 x109002_41, .int .i64 x109003_53, .string x103004_8, .string x103005_8]) ?_ 4 _ rfl; (with_reducible repeat (first | refine blk_drewN ?_ _ | refine blk_drew ?_ | refine blk_alloc ?_ _)); refine blk_put (cs := #[.int .i64 x109000_1, .int .i64 x109001_23, .int .i64 x109002_41, .int .i64 x103003_8, .string x103004_8, .string x103005_8]) ?_ 3 _ rfl; (with_reducible repeat (first | refine blk_drewN ?_ _ | refine blk_drew ?_ | refine blk_alloc ?_ _)); refine blk_put (cs := #[.int .i64 x109000_1, .int .i64 x109001_23, .int .i64 x103002_8, .int .i64 x103003_8, .string x103004_8, .string x103005_8]) ?_ 2 _ rfl; (with_reducible repeat (first | refine blk_drewN ?_ _ | refine blk_drew ?_ | refine blk_alloc ?_ _)); refine blk_put (cs := #[.int .i64 x109000_1, .int .i64 x103001_8, .int .i64 x103002_8, .int .i64 x103003_8, .string x103004_8, .string x103005_8]) ?_ 1 _ rfl; (with_reducible repeat (first | refine blk_drewN ?_ _ | refine blk_drew ?_ | refine blk_alloc ?_ _)); refine blk_put (cs := #[.int .i64 x103000_8, .int .i64 x103001_8, .int .i64 x103002_8, .int .i64 x103003_8, .string x103004_8, .string x103005_8]) ?_ 0 _ rfl; (with_reducible repeat (first | refine blk_drewN ?_ _ | refine blk_drew ?_ | refine blk_alloc ?_ _)); exact BK102.out) Tryd.underlying30 rfl (by kernel_rfl)) rfl ?_
                        exact ⟨by first | rfl | (simp [errW_none, errW_some] <;> rfl) | (simp [*, errW_none, errW_some] <;> rfl), by repeat (first | (with_reducible first | exact HB.out | apply below_alloc | apply pw_below_drewN | apply below_drew1 | refine below_set ?_ GE102.out | refine below_set ?_ GE108.out) | exact HB.out)⟩
                    ·rw [if_neg c71] at H
                     have c71b0 : (((x6_53.size : Int) % 2) == 0) = false := beq_eq_false_iff_ne.mpr c71
                     have c71b1 : (((x6_53.size : Int) % 2) != 0) = true := bne_iff_ne.mpr c71
                     simp only [Option.some.injEq, Prod.mk.injEq] at H
                     obtain ⟨rfl, rfl, rfl, rfl, rfl, rfl, rfl⟩ := H
                     have hnb100 := NB102_108.out
                     have hnc100 := NB108_102.out
                     have hcz101_0 : wc.cell? ⟨gb102, 0, none⟩ = some (.int .i64 x103000_53) := (blk_cell BK102.out 0).trans rfl
                     have hcz101_1 : wc.cell? ⟨gb102, 1, none⟩ = some (.int .i64 x103001_53) := (blk_cell BK102.out 1).trans rfl
                     have hcz101_2 : wc.cell? ⟨gb102, 2, none⟩ = some (.int .i64 x103002_53) := (blk_cell BK102.out 2).trans rfl
                     have hcz101_3 : wc.cell? ⟨gb102, 3, none⟩ = some (.int .i64 x103003_53) := (blk_cell BK102.out 3).trans rfl
                     have hcz101_4 : wc.cell? ⟨gb102, 4, none⟩ = some (.string x103004_53) := (blk_cell BK102.out 4).trans rfl
                     have hcz101_5 : wc.cell? ⟨gb102, 5, none⟩ = some (.string x103005_53) := (blk_cell BK102.out 5).trans rfl
                     have hfz101_0 := blk_frozen BK102.out 0
                     have hfz101_1 := blk_frozen BK102.out 1
                     have hfz101_2 := blk_frozen BK102.out 2
                     have hfz101_3 := blk_frozen BK102.out 3
                     have hfz101_4 := blk_frozen BK102.out 4
                     have hfz101_5 := blk_frozen BK102.out 5
                     go_wp2
                     repeat (go_quiet (fail); try go_wp2)
                     refine bodyPost_ret (results_ct rfl _ _ gb102 30 #[.int .i64 0, .int .i64 0, .int .i64 0, .int .i64 0, .string (⟨#[]⟩ : ByteArray), .string (⟨#[]⟩ : ByteArray)] (0, 0) _ rfl (by (with_reducible repeat (first | refine blk_drewN ?_ _ | refine blk_drew ?_ | refine blk_alloc ?_ _)); refine blk_put (cs := #[.int .i64 0, .int .i64 0, .int .i64 0, .int .i64 0, .string (⟨#[]⟩ : ByteArray), .string x103005_53]) ?_ 5 _ rfl; (with_reducible repeat (first | refine blk_drewN ?_ _ | refine blk_drew ?_ | refine blk_alloc ?_ _)); refine blk_put (cs := #[.int .i64 0, .int .i64 0, .int .i64 0, .int .i64 0, .string x103004_53, .string x103005_53]) ?_ 4 _ rfl; (with_reducible repeat (first | refine blk_drewN ?_ _ | refine blk_drew ?_ | refine blk_alloc ?_ _)); refine blk_put (cs := #[.int .i64 0, .int .i64 0, .int .i64 0, .int .i64 x103003_53, .string x103004_53, .string x103005_53]) ?_ 3 _ rfl; (with_reducible repeat (first | refine blk_drewN ?_ _ | refine blk_drew ?_ | refine blk_alloc ?_ _)); refine blk_put (cs := #[.int .i64 0, .int .i64 0, .int .i64 x103002_53, .int .i64 x103003_53, .string x103004_53, .string x103005_53]) ?_ 2 _ rfl; (with_reducible repeat (first | refine blk_drewN ?_ _ | refine blk_drew ?_ | refine blk_alloc ?_ _)); refine blk_put (cs := #[.int .i64 0, .int .i64 x103001_53, .int .i64 x103002_53, .int .i64 x103003_53, .string x103004_53, .string x103005_53]) ?_ 1 _ rfl; (with_reducible repeat (first | refine blk_drewN ?_ _ | refine blk_drew ?_ | refine blk_alloc ?_ _)); refine blk_put (cs := #[.int .i64 x103000_53, .int .i64 x103001_53, .int .i64 x103002_53, .int .i64 x103003_53, .string x103004_53, .string x103005_53]) ?_ 0 _ rfl; (with_reducible repeat (first | refine blk_drewN ?_ _ | refine blk_drew ?_ | refine blk_alloc ?_ _)); exact BK102.out) Tryd.underlying30 rfl (by kernel_rfl)) rfl ?_
                     exact ⟨by first | rfl | (simp [errW_none, errW_some] <;> rfl) | (simp [*, errW_none, errW_some] <;> rfl), by repeat (first | (with_reducible first | exact HB.out | apply below_alloc | apply pw_below_drewN | apply below_drew1 | refine below_set ?_ GE102.out | refine below_set ?_ GE108.out) | exact HB.out)⟩
                   ·rw [if_neg c70] at H
                    have c70b0 : (x109000_1 == 2) = false := beq_eq_false_iff_ne.mpr c70
                    have c70b1 : (x109000_1 != 2) = true := bne_iff_ne.mpr c70
                    by_cases c102 : x6_53.toList = ([] : List UInt8)
                    ·rw [if_pos c102] at H
                     have c102b0 : (x6_53.toList == ([] : List UInt8)) = true := beq_iff_eq.mpr c102
                     have c102b1 : (x6_53.toList != ([] : List UInt8)) = false := bne_eq_false_iff_eq.mpr c102
                     clear c102
                     simp only [Option.some.injEq, Prod.mk.injEq] at H
                     obtain ⟨rfl, rfl, rfl, rfl, rfl, rfl, rfl⟩ := H
                     have hnb103 := NB108_102.out
                     have hnc103 := NB102_108.out
                     have hcz104_0 : wc.cell? ⟨gb108, 0, none⟩ = some (.int .i64 x109000_1) := (blk_cell BK108.out 0).trans rfl
                     have hcz104_1 : wc.cell? ⟨gb108, 1, none⟩ = some (.int .i64 x109001_23) := (blk_cell BK108.out 1).trans rfl
                     have hcz104_2 : wc.cell? ⟨gb108, 2, none⟩ = some (.int .i64 x109002_41) := (blk_cell BK108.out 2).trans rfl
                     have hcz104_3 : wc.cell? ⟨gb108, 3, none⟩ = some (.int .i64 x109003_53) := (blk_cell BK108.out 3).trans rfl
                     have hcz104_4 : wc.cell? ⟨gb108, 4, none⟩ = some (.string (⟨#[]⟩ : ByteArray)) := (blk_cell BK108.out 4).trans rfl
                     have hcz104_5 : wc.cell? ⟨gb108, 5, none⟩ = some (.string (⟨#[]⟩ : ByteArray)) := (blk_cell BK108.out 5).trans rfl
                     have hfz104_0 := blk_frozen BK108.out 0
                     have hfz104_1 := blk_frozen BK108.out 1
                     have hfz104_2 := blk_frozen BK108.out 2
                     have hfz104_3 := blk_frozen BK108.out 3
                     have hfz104_4 := blk_frozen BK108.out 4
                     have hfz104_5 := blk_frozen BK108.out 5
                     have hcz105_0 : wc.cell? ⟨gb102, 0, none⟩ = some (.int .i64 x103000_53) := (blk_cell BK102.out 0).trans rfl
                     have hcz105_1 : wc.cell? ⟨gb102, 1, none⟩ = some (.int .i64 x103001_53) := (blk_cell BK102.out 1).trans rfl
                     have hcz105_2 : wc.cell? ⟨gb102, 2, none⟩ = some (.int .i64 x103002_53) := (blk_cell BK102.out 2).trans rfl
                     have hcz105_3 : wc.cell? ⟨gb102, 3, none⟩ = some (.int .i64 x103003_53) := (blk_cell BK102.out 3).trans rfl
                     have hcz105_4 : wc.cell? ⟨gb102, 4, none⟩ = some (.string x103004_53) := (blk_cell BK102.out 4).trans rfl
                     have hcz105_5 : wc.cell? ⟨gb102, 5, none⟩ = some (.string x103005_53) := (blk_cell BK102.out 5).trans rfl
                     have hfz105_0 := blk_frozen BK102.out 0
                     have hfz105_1 := blk_frozen BK102.out 1
                     have hfz105_2 := blk_frozen BK102.out 2
                     have hfz105_3 := blk_frozen BK102.out 3
                     have hfz105_4 := blk_frozen BK102.out 4
                     have hfz105_5 := blk_frozen BK102.out 5
                     go_wp2
                     repeat (go_quiet (fail); try go_wp2)
                     refine bodyPost_ret (results_ct rfl _ _ gb102 30 #[.int .i64 x109000_1, .int .i64 x109001_23, .int .i64 x109002_41, .int .i64 x109003_53, .string (⟨#[]⟩ : ByteArray), .string (⟨#[]⟩ : ByteArray)] (0, 0) _ rfl (by (with_reducible repeat (first | refine blk_drewN ?_ _ | refine blk_drew ?_ | refine blk_alloc ?_ _)); refine blk_put (cs := #[.int .i64 x109000_1, .int .i64 x109001_23, .int .i64 x109002_41, .int .i64 x109003_53, .string (⟨#[]⟩ : ByteArray), .string x103005_53]) ?_ 5 _ rfl; (with_reducible repeat (first | refine blk_drewN ?_ _ | refine blk_drew ?_ | refine blk_alloc ?_ _)); refine blk_put (cs := #[.int .i64 x109000_1, .int .i64 x109001_23, .int .i64 x109002_41, .int .i64 x109003_53, .string x103004_53, .string x103005_53]) ?_ 4 _ rfl; (with_reducible repeat (first | refine blk_drewN ?_ _ | refine blk_drew ?_ | refine blk_alloc ?_ _)); refine blk_put (cs := #[.int .i64 x109000_1, .int .i64 x109001_23, .int .i64 x109002_41, .int .i64 x103003_53, .string x103004_53, .string x103005_53]) ?_ 3 _ rfl; (with_reducible repeat (first | refine blk_drewN ?_ _ | refine blk_drew ?_ | refine blk_alloc ?_ _)); refine blk_put (cs := #[.int .i64 x109000_1, .int .i64 x109001_23, .int .i64 x103002_53, .int .i64 x103003_53, .string x103004_53, .string x103005_53]) ?_ 2 _ rfl; (with_reducible repeat (first | refine blk_drewN ?_ _ | refine blk_drew ?_ | refine blk_alloc ?_ _)); refine blk_put (cs := #[.int .i64 x109000_1, .int .i64 x103001_53, .int .i64 x103002_53, .int .i64 x103003_53, .string x103004_53, .string x103005_53]) ?_ 1 _ rfl; (with_reducible repeat (first | refine blk_drewN ?_ _ | refine blk_drew ?_ | refine blk_alloc ?_ _)); refine blk_put (cs := #[.int .i64 x103000_53, .int .i64 x103001_53, .int .i64 x103002_53, .int .i64 x103003_53, .string x103004_53, .string x103005_53]) ?_ 0 _ rfl; (with_reducible repeat (first | refine blk_drewN ?_ _ | refine blk_drew ?_ | refine blk_alloc ?_ _)); exact BK102.out) Tryd.underlying30 rfl (by kernel_rfl)) rfl ?_
                     exact ⟨by first | rfl | (simp [errW_none, errW_some] <;> rfl) | (simp [*, errW_none, errW_some] <;> rfl), by repeat (first | (with_reducible first | exact HB.out | apply below_alloc | apply pw_below_drewN | apply below_drew1 | refine below_set ?_ GE102.out | refine below_set ?_ GE108.out) | exact HB.out)⟩
                    ·rw [if_neg c102] at H
                     have c102b0 : (x6_53.toList == ([] : List UInt8)) = false := beq_eq_false_iff_ne.mpr c102
                     have c102b1 : (x6_53.toList != ([] : List UInt8)) = true := bne_iff_ne.mpr c102
                     simp only [Option.some.injEq, Prod.mk.injEq] at H
                     obtain ⟨rfl, rfl, rfl, rfl, rfl, rfl, rfl⟩ := H
                     have hnb106 := NB102_108.out
                     have hnc106 := NB108_102.out
                     have hcz107_0 : wc.cell? ⟨gb102, 0, none⟩ = some (.int .i64 x103000_53) := (blk_cell BK102.out 0).trans rfl
                     have hcz107_1 : wc.cell? ⟨gb102, 1, none⟩ = some (.int .i64 x103001_53) := (blk_cell BK102.out 1).trans rfl
                     have hcz107_2 : wc.cell? ⟨gb102, 2, none⟩ = some (.int .i64 x103002_53) := (blk_cell BK102.out 2).trans rfl
                     have hcz107_3 : wc.cell? ⟨gb102, 3, none⟩ = some (.int .i64 x103003_53) := (blk_cell BK102.out 3).trans rfl
                     have hcz107_4 : wc.cell? ⟨gb102, 4, none⟩ = some (.string x103004_53) := (blk_cell BK102.out 4).trans rfl
                     have hcz107_5 : wc.cell? ⟨gb102, 5, none⟩ = some (.string x103005_53) := (blk_cell BK102.out 5).trans rfl
                     have hfz107_0 := blk_frozen BK102.out 0
                     have hfz107_1 := blk_frozen BK102.out 1
                     have hfz107_2 := blk_frozen BK102.out 2
                     have hfz107_3 := blk_frozen BK102.out 3
                     have hfz107_4 := blk_frozen BK102.out 4
                     have hfz107_5 := blk_frozen BK102.out 5
                     go_wp2
                     repeat (go_quiet (fail); try go_wp2)
                     refine bodyPost_ret (results_ct rfl _ _ gb102 30 #[.int .i64 0, .int .i64 0, .int .i64 0, .int .i64 0, .string (⟨#[]⟩ : ByteArray), .string (⟨#[]⟩ : ByteArray)] (0, 0) _ rfl (by (with_reducible repeat (first | refine blk_drewN ?_ _ | refine blk_drew ?_ | refine blk_alloc ?_ _)); refine blk_put (cs := #[.int .i64 0, .int .i64 0, .int .i64 0, .int .i64 0, .string (⟨#[]⟩ : ByteArray), .string x103005_53]) ?_ 5 _ rfl; (with_reducible repeat (first | refine blk_drewN ?_ _ | refine blk_drew ?_ | refine blk_alloc ?_ _)); refine blk_put (cs := #[.int .i64 0, .int .i64 0, .int .i64 0, .int .i64 0, .string x103004_53, .string x103005_53]) ?_ 4 _ rfl; (with_reducible repeat (first | refine blk_drewN ?_ _ | refine blk_drew ?_ | refine blk_alloc ?_ _)); refine blk_put (cs := #[.int .i64 0, .int .i64 0, .int .i64 0, .int .i64 x103003_53, .string x103004_53, .string x103005_53]) ?_ 3 _ rfl; (with_reducible repeat (first | refine blk_drewN ?_ _ | refine blk_drew ?_ | refine blk_alloc ?_ _)); refine blk_put (cs := #[.int .i64 0, .int .i64 0, .int .i64 x103002_53, .int .i64 x103003_53, .string x103004_53, .string x103005_53]) ?_ 2 _ rfl; (with_reducible repeat (first | refine blk_drewN ?_ _ | refine blk_drew ?_ | refine blk_alloc ?_ _)); refine blk_put (cs := #[.int .i64 0, .int .i64 x103001_53, .int .i64 x103002_53, .int .i64 x103003_53, .string x103004_53, .string x103005_53]) ?_ 1 _ rfl; (with_reducible repeat (first | refine blk_drewN ?_ _ | refine blk_drew ?_ | refine blk_alloc ?_ _)); refine blk_put (cs := #[.int .i64 x103000_53, .int .i64 x103001_53, .int .i64 x103002_53, .int .i64 x103003_53, .string x103004_53, .string x103005_53]) ?_ 0 _ rfl; (with_reducible repeat (first | refine blk_drewN ?_ _ | refine blk_drew ?_ | refine blk_alloc ?_ _)); exact BK102.out) Tryd.underlying30 rfl (by kernel_rfl)) rfl ?_
                     exact ⟨by first | rfl | (simp [errW_none, errW_some] <;> rfl) | (simp [*, errW_none, errW_some] <;> rfl), by repeat (first | (with_reducible first | exact HB.out | apply below_alloc | apply pw_below_drewN | apply below_drew1 | refine below_set ?_ GE102.out | refine below_set ?_ GE108.out) | exact HB.out)⟩

end Go.Proofs.YtbkhhmgpfjemcaaDoor.PAskR
