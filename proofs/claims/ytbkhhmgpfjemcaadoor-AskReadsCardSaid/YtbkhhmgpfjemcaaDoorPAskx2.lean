-- Printed by a program of ours (wip/print2).
import Derived.Test.YtbkhhmgpfjemcaaDoorAskExt
import Derived.Test.YtbkhhmgpfjemcaaDoorPAskx0
import Derived.Test.YtbkhhmgpfjemcaaDoorPAskx1
namespace Go.Proofs.YtbkhhmgpfjemcaaDoor.PAsk
open Go.RowKit Go.Proofs.YtbkhhmgpfjemcaaDoorW.PrintWords Go.Proofs.YtbkhhmgpfjemcaaDoorW.PrintLast Go.Proofs.YtbkhhmgpfjemcaaDoorW.PrintMore
attribute [local go_sem] max2_int min2_int max_two min_two max_three min_three max_four min_four   -- for this text's walks alone
set_option linter.unusedVariables false
set_option linter.unusedSimpArgs false

/-! ### ask_Encode: function 13 -/
mutual
def ask_Encode.l0 : Nat → List (S47) → Int → Int → Int → Int → Int → Int → ByteArray → List Int → Option (ByteArray)
  | 0, _, _, _, _, _, _, _, _, _ => none
  | k + 1, x9, x10, x11, x125000, x125001, x125002, x125003, x125004, x125005 => if x11 < x10 then (if 0 ≤ x11 then (if x11 < (x9.length : Int) then (if ((rd_T47 x9 x11).f1) = x125000 then ((some (([(rd_T47 x9 x11).f0] : List ByteArray) : List ByteArray)).bind fun y130 => (if (rd_T47 x9 x11).f2 = true then ((strconv_Itoa.f x125001).bind fun t133 => (if y130.length < 8796093022208 then (ask_Encode.j1 k (y130 ++ [t133]) x125000 x125001 x125002 x125003 x125004 x125005 ((rd_T47 x9 x11).f0) ((rd_T47 x9 x11).f1) ((rd_T47 x9 x11).f2) ((rd_T47 x9 x11).f3) ((rd_T47 x9 x11).f4) ((rd_T47 x9 x11).f5) ((rd_T47 x9 x11).f6)) else (none))) else (ask_Encode.j1 k y130 x125000 x125001 x125002 x125003 x125004 x125005 ((rd_T47 x9 x11).f0) ((rd_T47 x9 x11).f1) ((rd_T47 x9 x11).f2) ((rd_T47 x9 x11).f3) ((rd_T47 x9 x11).f4) ((rd_T47 x9 x11).f5) ((rd_T47 x9 x11).f6)))) else (ask_Encode.l0 k x9 x10 (wrap64 (x11 + 1)) x125000 x125001 x125002 x125003 x125004 x125005)) else (none)) else (none)) else (some (⟨#[]⟩ : ByteArray))
def ask_Encode.j1 : Nat → List ByteArray → Int → Int → Int → Int → ByteArray → List Int → ByteArray → Int → Bool → Bool → Bool → Bool → Bool → Option (ByteArray)
  | 0, _, _, _, _, _, _, _, _, _, _, _, _, _, _ => none
  | k + 1, x5, x125000, x125001, x125002, x125003, x125004, x125005, x130000, x130001, x130002, x130003, x130004, x130005, x130006 => if x130003 = true then ((strconv_Itoa.f x125002).bind fun t137 => (if x5.length < 8796093022208 then (ask_Encode.j2 k (x5 ++ [t137]) x125000 x125001 x125002 x125003 x125004 x125005 x130000 x130001 x130002 x130003 x130004 x130005 x130006) else (none))) else (ask_Encode.j2 k x5 x125000 x125001 x125002 x125003 x125004 x125005 x130000 x130001 x130002 x130003 x130004 x130005 x130006)
def ask_Encode.j2 : Nat → List ByteArray → Int → Int → Int → Int → ByteArray → List Int → ByteArray → Int → Bool → Bool → Bool → Bool → Bool → Option (ByteArray)
  | 0, _, _, _, _, _, _, _, _, _, _, _, _, _, _ => none
  | k + 1, x5, x125000, x125001, x125002, x125003, x125004, x125005, x130000, x130001, x130002, x130003, x130004, x130005, x130006 => if x130004 = true then ((strconv_Itoa.f x125003).bind fun t141 => (if x5.length < 8796093022208 then (ask_Encode.j3 k (x5 ++ [t141]) x125000 x125001 x125002 x125003 x125004 x125005 x130000 x130001 x130002 x130003 x130004 x130005 x130006) else (none))) else (ask_Encode.j3 k x5 x125000 x125001 x125002 x125003 x125004 x125005 x130000 x130001 x130002 x130003 x130004 x130005 x130006)
def ask_Encode.j3 : Nat → List ByteArray → Int → Int → Int → Int → ByteArray → List Int → ByteArray → Int → Bool → Bool → Bool → Bool → Bool → Option (ByteArray)
  | 0, _, _, _, _, _, _, _, _, _, _, _, _, _, _ => none
  | k + 1, x5, x125000, x125001, x125002, x125003, x125004, x125005, x130000, x130001, x130002, x130003, x130004, x130005, x130006 => if x130006 = true then (ask_Encode.j4 k x5 (x125004.toList != ([] : List UInt8)) x125000 x125001 x125002 x125003 x125004 x125005 x130000 x130001 x130002 x130003 x130004 x130005 x130006) else (ask_Encode.j4 k x5 false x125000 x125001 x125002 x125003 x125004 x125005 x130000 x130001 x130002 x130003 x130004 x130005 x130006)
def ask_Encode.j4 : Nat → List ByteArray → Bool → Int → Int → Int → Int → ByteArray → List Int → ByteArray → Int → Bool → Bool → Bool → Bool → Bool → Option (ByteArray)
  | 0, _, _, _, _, _, _, _, _, _, _, _, _, _, _, _ => none
  | k + 1, x5, x53, x125000, x125001, x125002, x125003, x125004, x125005, x130000, x130001, x130002, x130003, x130004, x130005, x130006 => if x53 = true then (if x5.length < 8796093022208 then (ask_Encode.j5 k (x5 ++ [x125004]) x125000 x125001 x125002 x125003 x125004 x125005 x130000 x130001 x130002 x130003 x130004 x130005 x130006) else (none)) else (ask_Encode.j5 k x5 x125000 x125001 x125002 x125003 x125004 x125005 x130000 x130001 x130002 x130003 x130004 x130005 x130006)
def ask_Encode.j5 : Nat → List ByteArray → Int → Int → Int → Int → ByteArray → List Int → ByteArray → Int → Bool → Bool → Bool → Bool → Bool → Option (ByteArray)
  | 0, _, _, _, _, _, _, _, _, _, _, _, _, _, _ => none
  | k + 1, x5, x125000, x125001, x125002, x125003, x125004, x125005, x130000, x130001, x130002, x130003, x130004, x130005, x130006 => if x130005 = true then (ask_Encode.j6 k x5 (decide ((x125005.length : Int) > 0)) x125000 x125001 x125002 x125003 x125004 x125005) else (ask_Encode.j6 k x5 false x125000 x125001 x125002 x125003 x125004 x125005)
def ask_Encode.j6 : Nat → List ByteArray → Bool → Int → Int → Int → Int → ByteArray → List Int → Option (ByteArray)
  | 0, _, _, _, _, _, _, _, _ => none
  | k + 1, x5, x66, x125000, x125001, x125002, x125003, x125004, x125005 => if x66 = true then (if 0 ≤ (wrap64 (2 * (x125005.length : Int))) then (if (wrap64 (2 * (x125005.length : Int)) : Int).toNat ≤ 281474976710656 then (ask_Encode.l1 k x5 (List.replicate 0 0) x125005 (x125005.length : Int) 0) else (none)) else (none)) else ((strings_Join.f x5 (⟨#[32]⟩ : ByteArray)).bind fun t162 => (some t162))
def ask_Encode.l1 : Nat → List ByteArray → List Int → List Int → Int → Int → Option (ByteArray)
  | 0, _, _, _, _, _ => none
  | k + 1, x5, x6, x73, x74, x75 => if x75 < x74 then (if 0 ≤ x75 then (if x75 < (x73.length : Int) then (if 0 ≤ ((rd x73 x75) / 16) then (if ((rd x73 x75) / 16) < 16 then (if 0 ≤ (Go.bits .and .u8 (rd x73 x75) 15) then (if (Go.bits .and .u8 (rd x73 x75) 15) < 16 then ((some (([bt (⟨#[48, 49, 50, 51, 52, 53, 54, 55, 56, 57, 97, 98, 99, 100, 101, 102]⟩ : ByteArray) ((rd x73 x75) / 16), bt (⟨#[48, 49, 50, 51, 52, 53, 54, 55, 56, 57, 97, 98, 99, 100, 101, 102]⟩ : ByteArray) (Go.bits .and .u8 (rd x73 x75) 15)] : List Int) : List Int)).bind fun y152 => (if x6.length + y152.length < 140737488355328 then (ask_Encode.l1 k x5 (x6 ++ y152) x73 x74 (wrap64 (x75 + 1))) else (none))) else (none)) else (none)) else (none)) else (none)) else (none)) else (none)) else (if x5.length < 8796093022208 then ((strings_Join.f (x5 ++ [strOfNums x6]) (⟨#[32]⟩ : ByteArray)).bind fun t161 => (some t161)) else (none))
end
def ask_Encode.f (k : Nat) (a0_0 : Int) (a0_1 : Int) (a0_2 : Int) (a0_3 : Int) (a0_4 : ByteArray) (l0_5 : List Int) : Option (ByteArray) := (ask_forms.f).bind fun t125 => (ask_Encode.l0 k t125 (t125.length : Int) 0 a0_0 a0_1 a0_2 a0_3 a0_4 l0_5)
theorem ask_Encode.mono_l : ∀ k, (∀ y0 y1 y2 y3 y4 y5 y6 y7 y8, LeO (ask_Encode.l0 k y0 y1 y2 y3 y4 y5 y6 y7 y8) (ask_Encode.l0 (k + 1) y0 y1 y2 y3 y4 y5 y6 y7 y8)) ∧ (∀ y0 y1 y2 y3 y4 y5 y6 y7 y8 y9 y10 y11 y12 y13, LeO (ask_Encode.j1 k y0 y1 y2 y3 y4 y5 y6 y7 y8 y9 y10 y11 y12 y13) (ask_Encode.j1 (k + 1) y0 y1 y2 y3 y4 y5 y6 y7 y8 y9 y10 y11 y12 y13)) ∧ (∀ y0 y1 y2 y3 y4 y5 y6 y7 y8 y9 y10 y11 y12 y13, LeO (ask_Encode.j2 k y0 y1 y2 y3 y4 y5 y6 y7 y8 y9 y10 y11 y12 y13) (ask_Encode.j2 (k + 1) y0 y1 y2 y3 y4 y5 y6 y7 y8 y9 y10 y11 y12 y13)) ∧ (∀ y0 y1 y2 y3 y4 y5 y6 y7 y8 y9 y10 y11 y12 y13, LeO (ask_Encode.j3 k y0 y1 y2 y3 y4 y5 y6 y7 y8 y9 y10 y11 y12 y13) (ask_Encode.j3 (k + 1) y0 y1 y2 y3 y4 y5 y6 y7 y8 y9 y10 y11 y12 y13)) ∧ (∀ y0 y1 y2 y3 y4 y5 y6 y7 y8 y9 y10 y11 y12 y13 y14, LeO (ask_Encode.j4 k y0 y1 y2 y3 y4 y5 y6 y7 y8 y9 y10 y11 y12 y13 y14) (ask_Encode.j4 (k + 1) y0 y1 y2 y3 y4 y5 y6 y7 y8 y9 y10 y11 y12 y13 y14)) ∧ (∀ y0 y1 y2 y3 y4 y5 y6 y7 y8 y9 y10 y11 y12 y13, LeO (ask_Encode.j5 k y0 y1 y2 y3 y4 y5 y6 y7 y8 y9 y10 y11 y12 y13) (ask_Encode.j5 (k + 1) y0 y1 y2 y3 y4 y5 y6 y7 y8 y9 y10 y11 y12 y13)) ∧ (∀ y0 y1 y2 y3 y4 y5 y6 y7, LeO (ask_Encode.j6 k y0 y1 y2 y3 y4 y5 y6 y7) (ask_Encode.j6 (k + 1) y0 y1 y2 y3 y4 y5 y6 y7)) ∧ (∀ y0 y1 y2 y3 y4, LeO (ask_Encode.l1 k y0 y1 y2 y3 y4) (ask_Encode.l1 (k + 1) y0 y1 y2 y3 y4))
  | 0 => ⟨fun _ _ _ _ _ _ _ _ _ r h => by simp [ask_Encode.l0] at h, fun _ _ _ _ _ _ _ _ _ _ _ _ _ _ r h => by simp [ask_Encode.j1] at h, fun _ _ _ _ _ _ _ _ _ _ _ _ _ _ r h => by simp [ask_Encode.j2] at h, fun _ _ _ _ _ _ _ _ _ _ _ _ _ _ r h => by simp [ask_Encode.j3] at h, fun _ _ _ _ _ _ _ _ _ _ _ _ _ _ _ r h => by simp [ask_Encode.j4] at h, fun _ _ _ _ _ _ _ _ _ _ _ _ _ _ r h => by simp [ask_Encode.j5] at h, fun _ _ _ _ _ _ _ _ r h => by simp [ask_Encode.j6] at h, fun _ _ _ _ _ r h => by simp [ask_Encode.l1] at h⟩
  | k + 1 => by
    obtain ⟨ih0, ih1, ih2, ih3, ih4, ih5, ih6, ih7⟩ := ask_Encode.mono_l k
    refine ⟨?_, ?_, ?_, ?_, ?_, ?_, ?_, ?_⟩
    · intro y0 y1 y2 y3 y4 y5 y6 y7 y8
      unfold ask_Encode.l0
      repeat' first
      | (with_reducible exact ih0 _ _ _ _ _ _ _ _ _)
      | (with_reducible exact ih1 _ _ _ _ _ _ _ _ _ _ _ _ _ _)
      | (with_reducible exact ih2 _ _ _ _ _ _ _ _ _ _ _ _ _ _)
      | (with_reducible exact ih3 _ _ _ _ _ _ _ _ _ _ _ _ _ _)
      | (with_reducible exact ih4 _ _ _ _ _ _ _ _ _ _ _ _ _ _ _)
      | (with_reducible exact ih5 _ _ _ _ _ _ _ _ _ _ _ _ _ _)
      | (with_reducible exact ih6 _ _ _ _ _ _ _ _)
      | (with_reducible exact ih7 _ _ _ _ _)
      | (with_reducible exact LeO.refl _)
      | (with_reducible exact LeO.none _)
      | (with_reducible refine LeO.ite ?_ ?_)
      | (with_reducible refine LeO.bind ?_ (fun _ => ?_))
      | exact ih0 _ _ _ _ _ _ _ _ _
      | exact ih1 _ _ _ _ _ _ _ _ _ _ _ _ _ _
      | exact ih2 _ _ _ _ _ _ _ _ _ _ _ _ _ _
      | exact ih3 _ _ _ _ _ _ _ _ _ _ _ _ _ _
      | exact ih4 _ _ _ _ _ _ _ _ _ _ _ _ _ _ _
      | exact ih5 _ _ _ _ _ _ _ _ _ _ _ _ _ _
      | exact ih6 _ _ _ _ _ _ _ _
      | exact ih7 _ _ _ _ _
      | exact LeO.none _
      | refine LeO.ite ?_ ?_
      | refine LeO.bind ?_ (fun _ => ?_)
    · intro y0 y1 y2 y3 y4 y5 y6 y7 y8 y9 y10 y11 y12 y13
      unfold ask_Encode.j1
      repeat' first
      | (with_reducible exact ih0 _ _ _ _ _ _ _ _ _)
      | (with_reducible exact ih1 _ _ _ _ _ _ _ _ _ _ _ _ _ _)
      | (with_reducible exact ih2 _ _ _ _ _ _ _ _ _ _ _ _ _ _)
      | (with_reducible exact ih3 _ _ _ _ _ _ _ _ _ _ _ _ _ _)
      | (with_reducible exact ih4 _ _ _ _ _ _ _ _ _ _ _ _ _ _ _)
      | (with_reducible exact ih5 _ _ _ _ _ _ _ _ _ _ _ _ _ _)
      | (with_reducible exact ih6 _ _ _ _ _ _ _ _)
      | (with_reducible exact ih7 _ _ _ _ _)
      | (with_reducible exact LeO.refl _)
      | (with_reducible exact LeO.none _)
      | (with_reducible refine LeO.ite ?_ ?_)
      | (with_reducible refine LeO.bind ?_ (fun _ => ?_))
      | exact ih0 _ _ _ _ _ _ _ _ _
      | exact ih1 _ _ _ _ _ _ _ _ _ _ _ _ _ _
      | exact ih2 _ _ _ _ _ _ _ _ _ _ _ _ _ _
      | exact ih3 _ _ _ _ _ _ _ _ _ _ _ _ _ _
      | exact ih4 _ _ _ _ _ _ _ _ _ _ _ _ _ _ _
      | exact ih5 _ _ _ _ _ _ _ _ _ _ _ _ _ _
      | exact ih6 _ _ _ _ _ _ _ _
      | exact ih7 _ _ _ _ _
      | exact LeO.none _
      | refine LeO.ite ?_ ?_
      | refine LeO.bind ?_ (fun _ => ?_)
    · intro y0 y1 y2 y3 y4 y5 y6 y7 y8 y9 y10 y11 y12 y13
      unfold ask_Encode.j2
      repeat' first
      | (with_reducible exact ih0 _ _ _ _ _ _ _ _ _)
      | (with_reducible exact ih1 _ _ _ _ _ _ _ _ _ _ _ _ _ _)
      | (with_reducible exact ih2 _ _ _ _ _ _ _ _ _ _ _ _ _ _)
      | (with_reducible exact ih3 _ _ _ _ _ _ _ _ _ _ _ _ _ _)
      | (with_reducible exact ih4 _ _ _ _ _ _ _ _ _ _ _ _ _ _ _)
      | (with_reducible exact ih5 _ _ _ _ _ _ _ _ _ _ _ _ _ _)
      | (with_reducible exact ih6 _ _ _ _ _ _ _ _)
      | (with_reducible exact ih7 _ _ _ _ _)
      | (with_reducible exact LeO.refl _)
      | (with_reducible exact LeO.none _)
      | (with_reducible refine LeO.ite ?_ ?_)
      | (with_reducible refine LeO.bind ?_ (fun _ => ?_))
      | exact ih0 _ _ _ _ _ _ _ _ _
      | exact ih1 _ _ _ _ _ _ _ _ _ _ _ _ _ _
      | exact ih2 _ _ _ _ _ _ _ _ _ _ _ _ _ _
      | exact ih3 _ _ _ _ _ _ _ _ _ _ _ _ _ _
      | exact ih4 _ _ _ _ _ _ _ _ _ _ _ _ _ _ _
      | exact ih5 _ _ _ _ _ _ _ _ _ _ _ _ _ _
      | exact ih6 _ _ _ _ _ _ _ _
      | exact ih7 _ _ _ _ _
      | exact LeO.none _
      | refine LeO.ite ?_ ?_
      | refine LeO.bind ?_ (fun _ => ?_)
    · intro y0 y1 y2 y3 y4 y5 y6 y7 y8 y9 y10 y11 y12 y13
      unfold ask_Encode.j3
      repeat' first
      | (with_reducible exact ih0 _ _ _ _ _ _ _ _ _)
      | (with_reducible exact ih1 _ _ _ _ _ _ _ _ _ _ _ _ _ _)
      | (with_reducible exact ih2 _ _ _ _ _ _ _ _ _ _ _ _ _ _)
      | (with_reducible exact ih3 _ _ _ _ _ _ _ _ _ _ _ _ _ _)
      | (with_reducible exact ih4 _ _ _ _ _ _ _ _ _ _ _ _ _ _ _)
      | (with_reducible exact ih5 _ _ _ _ _ _ _ _ _ _ _ _ _ _)
      | (with_reducible exact ih6 _ _ _ _ _ _ _ _)
      | (with_reducible exact ih7 _ _ _ _ _)
      | (with_reducible exact LeO.refl _)
      | (with_reducible exact LeO.none _)
      | (with_reducible refine LeO.ite ?_ ?_)
      | (with_reducible refine LeO.bind ?_ (fun _ => ?_))
      | exact ih0 _ _ _ _ _ _ _ _ _
      | exact ih1 _ _ _ _ _ _ _ _ _ _ _ _ _ _
      | exact ih2 _ _ _ _ _ _ _ _ _ _ _ _ _ _
      | exact ih3 _ _ _ _ _ _ _ _ _ _ _ _ _ _
      | exact ih4 _ _ _ _ _ _ _ _ _ _ _ _ _ _ _
      | exact ih5 _ _ _ _ _ _ _ _ _ _ _ _ _ _
      | exact ih6 _ _ _ _ _ _ _ _
      | exact ih7 _ _ _ _ _
      | exact LeO.none _
      | refine LeO.ite ?_ ?_
      | refine LeO.bind ?_ (fun _ => ?_)
    · intro y0 y1 y2 y3 y4 y5 y6 y7 y8 y9 y10 y11 y12 y13 y14
      unfold ask_Encode.j4
      repeat' first
      | (with_reducible exact ih0 _ _ _ _ _ _ _ _ _)
      | (with_reducible exact ih1 _ _ _ _ _ _ _ _ _ _ _ _ _ _)
      | (with_reducible exact ih2 _ _ _ _ _ _ _ _ _ _ _ _ _ _)
      | (with_reducible exact ih3 _ _ _ _ _ _ _ _ _ _ _ _ _ _)
      | (with_reducible exact ih4 _ _ _ _ _ _ _ _ _ _ _ _ _ _ _)
      | (with_reducible exact ih5 _ _ _ _ _ _ _ _ _ _ _ _ _ _)
      | (with_reducible exact ih6 _ _ _ _ _ _ _ _)
      | (with_reducible exact ih7 _ _ _ _ _)
      | (with_reducible exact LeO.refl _)
      | (with_reducible exact LeO.none _)
      | (with_reducible refine LeO.ite ?_ ?_)
      | (with_reducible refine LeO.bind ?_ (fun _ => ?_))
      | exact ih0 _ _ _ _ _ _ _ _ _
      | exact ih1 _ _ _ _ _ _ _ _ _ _ _ _ _ _
      | exact ih2 _ _ _ _ _ _ _ _ _ _ _ _ _ _
      | exact ih3 _ _ _ _ _ _ _ _ _ _ _ _ _ _
      | exact ih4 _ _ _ _ _ _ _ _ _ _ _ _ _ _ _
      | exact ih5 _ _ _ _ _ _ _ _ _ _ _ _ _ _
      | exact ih6 _ _ _ _ _ _ _ _
      | exact ih7 _ _ _ _ _
      | exact LeO.none _
      | refine LeO.ite ?_ ?_
      | refine LeO.bind ?_ (fun _ => ?_)
    · intro y0 y1 y2 y3 y4 y5 y6 y7 y8 y9 y10 y11 y12 y13
      unfold ask_Encode.j5
      repeat' first
      | (with_reducible exact ih0 _ _ _ _ _ _ _ _ _)
      | (with_reducible exact ih1 _ _ _ _ _ _ _ _ _ _ _ _ _ _)
      | (with_reducible exact ih2 _ _ _ _ _ _ _ _ _ _ _ _ _ _)
      | (with_reducible exact ih3 _ _ _ _ _ _ _ _ _ _ _ _ _ _)
      | (with_reducible exact ih4 _ _ _ _ _ _ _ _ _ _ _ _ _ _ _)
      | (with_reducible exact ih5 _ _ _ _ _ _ _ _ _ _ _ _ _ _)
      | (with_reducible exact ih6 _ _ _ _ _ _ _ _)
      | (with_reducible exact ih7 _ _ _ _ _)
      | (with_reducible exact LeO.refl _)
      | (with_reducible exact LeO.none _)
      | (with_reducible refine LeO.ite ?_ ?_)
      | (with_reducible refine LeO.bind ?_ (fun _ => ?_))
      | exact ih0 _ _ _ _ _ _ _ _ _
      | exact ih1 _ _ _ _ _ _ _ _ _ _ _ _ _ _
      | exact ih2 _ _ _ _ _ _ _ _ _ _ _ _ _ _
      | exact ih3 _ _ _ _ _ _ _ _ _ _ _ _ _ _
      | exact ih4 _ _ _ _ _ _ _ _ _ _ _ _ _ _ _
      | exact ih5 _ _ _ _ _ _ _ _ _ _ _ _ _ _
      | exact ih6 _ _ _ _ _ _ _ _
      | exact ih7 _ _ _ _ _
      | exact LeO.none _
      | refine LeO.ite ?_ ?_
      | refine LeO.bind ?_ (fun _ => ?_)
    · intro y0 y1 y2 y3 y4 y5 y6 y7
      unfold ask_Encode.j6
      repeat' first
      | (with_reducible exact ih0 _ _ _ _ _ _ _ _ _)
      | (with_reducible exact ih1 _ _ _ _ _ _ _ _ _ _ _ _ _ _)
      | (with_reducible exact ih2 _ _ _ _ _ _ _ _ _ _ _ _ _ _)
      | (with_reducible exact ih3 _ _ _ _ _ _ _ _ _ _ _ _ _ _)
      | (with_reducible exact ih4 _ _ _ _ _ _ _ _ _ _ _ _ _ _ _)
      | (with_reducible exact ih5 _ _ _ _ _ _ _ _ _ _ _ _ _ _)
      | (with_reducible exact ih6 _ _ _ _ _ _ _ _)
      | (with_reducible exact ih7 _ _ _ _ _)
      | (with_reducible exact LeO.refl _)
      | (with_reducible exact LeO.none _)
      | (with_reducible refine LeO.ite ?_ ?_)
      | (with_reducible refine LeO.bind ?_ (fun _ => ?_))
      | exact ih0 _ _ _ _ _ _ _ _ _
      | exact ih1 _ _ _ _ _ _ _ _ _ _ _ _ _ _
      | exact ih2 _ _ _ _ _ _ _ _ _ _ _ _ _ _
      | exact ih3 _ _ _ _ _ _ _ _ _ _ _ _ _ _
      | exact ih4 _ _ _ _ _ _ _ _ _ _ _ _ _ _ _
      | exact ih5 _ _ _ _ _ _ _ _ _ _ _ _ _ _
      | exact ih6 _ _ _ _ _ _ _ _
      | exact ih7 _ _ _ _ _
      | exact LeO.none _
      | refine LeO.ite ?_ ?_
      | refine LeO.bind ?_ (fun _ => ?_)
    · intro y0 y1 y2 y3 y4
      unfold ask_Encode.l1
      repeat' first
      | (with_reducible exact ih0 _ _ _ _ _ _ _ _ _)
      | (with_reducible exact ih1 _ _ _ _ _ _ _ _ _ _ _ _ _ _)
      | (with_reducible exact ih2 _ _ _ _ _ _ _ _ _ _ _ _ _ _)
      | (with_reducible exact ih3 _ _ _ _ _ _ _ _ _ _ _ _ _ _)
      | (with_reducible exact ih4 _ _ _ _ _ _ _ _ _ _ _ _ _ _ _)
      | (with_reducible exact ih5 _ _ _ _ _ _ _ _ _ _ _ _ _ _)
      | (with_reducible exact ih6 _ _ _ _ _ _ _ _)
      | (with_reducible exact ih7 _ _ _ _ _)
      | (with_reducible exact LeO.refl _)
      | (with_reducible exact LeO.none _)
      | (with_reducible refine LeO.ite ?_ ?_)
      | (with_reducible refine LeO.bind ?_ (fun _ => ?_))
      | exact ih0 _ _ _ _ _ _ _ _ _
      | exact ih1 _ _ _ _ _ _ _ _ _ _ _ _ _ _
      | exact ih2 _ _ _ _ _ _ _ _ _ _ _ _ _ _
      | exact ih3 _ _ _ _ _ _ _ _ _ _ _ _ _ _
      | exact ih4 _ _ _ _ _ _ _ _ _ _ _ _ _ _ _
      | exact ih5 _ _ _ _ _ _ _ _ _ _ _ _ _ _
      | exact ih6 _ _ _ _ _ _ _ _
      | exact ih7 _ _ _ _ _
      | exact LeO.none _
      | refine LeO.ite ?_ ?_
      | refine LeO.bind ?_ (fun _ => ?_)
theorem ask_Encode.mono : ∀ a0 a1 a2 a3 a4 a5 k, LeO (ask_Encode.f k a0 a1 a2 a3 a4 a5) (ask_Encode.f (k + 1) a0 a1 a2 a3 a4 a5) := by
  intro a0 a1 a2 a3 a4 a5 k
  obtain ⟨ih0, ih1, ih2, ih3, ih4, ih5, ih6, ih7⟩ := ask_Encode.mono_l k
  unfold ask_Encode.f
  repeat' first
      | (with_reducible exact ih0 _ _ _ _ _ _ _ _ _)
      | (with_reducible exact ih1 _ _ _ _ _ _ _ _ _ _ _ _ _ _)
      | (with_reducible exact ih2 _ _ _ _ _ _ _ _ _ _ _ _ _ _)
      | (with_reducible exact ih3 _ _ _ _ _ _ _ _ _ _ _ _ _ _)
      | (with_reducible exact ih4 _ _ _ _ _ _ _ _ _ _ _ _ _ _ _)
      | (with_reducible exact ih5 _ _ _ _ _ _ _ _ _ _ _ _ _ _)
      | (with_reducible exact ih6 _ _ _ _ _ _ _ _)
      | (with_reducible exact ih7 _ _ _ _ _)
      | (with_reducible exact LeO.refl _)
      | (with_reducible exact LeO.none _)
      | (with_reducible refine LeO.ite ?_ ?_)
      | (with_reducible refine LeO.bind ?_ (fun _ => ?_))
      | exact ih0 _ _ _ _ _ _ _ _ _
      | exact ih1 _ _ _ _ _ _ _ _ _ _ _ _ _ _
      | exact ih2 _ _ _ _ _ _ _ _ _ _ _ _ _ _
      | exact ih3 _ _ _ _ _ _ _ _ _ _ _ _ _ _
      | exact ih4 _ _ _ _ _ _ _ _ _ _ _ _ _ _ _
      | exact ih5 _ _ _ _ _ _ _ _ _ _ _ _ _ _
      | exact ih6 _ _ _ _ _ _ _ _
      | exact ih7 _ _ _ _ _
      | exact LeO.none _
      | refine LeO.ite ?_ ?_
      | refine LeO.bind ?_ (fun _ => ?_)
def ask_Encode.T19 : Bool × List (List Nat × List Nat) := (true, [([], []), ([], []), ([1], [1]), ([2], [2]), ([], []), ([4], [4]), ([5], [5]), ([3, 6], [3, 6]), ([0, 7], [0, 7]), ([8, 8, 0, 1, 2, 3, 4, 5, 6, 7, 8], [0, 8])])
def ask_Encode.B19 : List Nat := [0, 0, 2, 6, 0, 16, 48, 126, 255, 511]
theorem ask_Encode.tab19 : rtab .any (opsOf Tryd.f13 19) = ask_Encode.T19 := by kernel_rfl
theorem ask_Encode.bits19 : waitsOk ask_Encode.T19.2 ask_Encode.B19 = true := by kernel_rfl
set_option maxHeartbeats 8000000 in
set_option maxRecDepth 100000 in
theorem ask_Encode.calls (k : Nat) (a0_0 : Int) (a0_1 : Int) (a0_2 : Int) (a0_3 : Int) (a0_4 : ByteArray) (A0_5 : Option Addr) (c0_5 : Nat) (l0_5 : List Int) (r : ByteArray) (w : World) (hr0_5 : Kd.C (Kd.int .u8) w A0_5 l0_5.length l0_5) (hc0_5 : l0_5.length ≤ c0_5) (hE_ : EnvE w) (h : ask_Encode.f k a0_0 a0_1 a0_2 a0_3 a0_4 l0_5 = some r) :
    Calls Tryd.prog 13 #[.agg #[.int .i64 a0_0, .int .i64 a0_1, .int .i64 a0_2, .int .i64 a0_3, .string a0_4, .slice A0_5 l0_5.length c0_5]] w fun e w' => e = .returned (.string r) ∧ Below w.heap.size w w' := by
  have HE_ := Aside0.mk hE_
  clear hE_
  have hu25 := Tryd.underlying25
  have hu47 := Tryd.underlying47
  have HR0_5 := Aside0.mk hr0_5
  have HC0_5 := Aside0.mk hc0_5
  clear hr0_5 hc0_5
  have HB := Aside0.mk (Below.refl w.heap.size w)
  have H : ((ask_forms.f).bind fun t125 => (ask_Encode.l0 k t125 (t125.length : Int) 0 a0_0 a0_1 a0_2 a0_3 a0_4 l0_5)) = some r := h
  clear h
  replace H := Option.bind_eq_some_iff.mp H
  obtain ⟨t125, A20, H⟩ := H
  replace H : (ask_Encode.l0 k t125 (t125.length : Int) 0 a0_0 a0_1 a0_2 a0_3 a0_4 l0_5) = some r := H
  have A2 := Aside0.mk A20
  clear A20
  have H' := Aside0.mk H
  clear H
  go_enter Tryd.func13, Tryd.ntmps13
  go_wp2_with (first | ((with_reducible refine gate_dst (N := 1) rfl ?_); (try (refine gate_guard (by rfl) ?_; dsimp only)); refine box_event ?hg (N := 1) ?hd (cs := #[.int .i64 a0_0, .int .i64 a0_1, .int .i64 a0_2, .int .i64 a0_3, .string a0_4, .slice A0_5 l0_5.length c0_5]) (t := 25) ?hr ?_; (case hd => rfl); (case hg => rfl); (case hr => first | (go_simp; done) | (go_simp; rfl)); intro gb124 hg w3 hbox hb; have n0_ := Aside0.mk (below_step (by repeat (first | (with_reducible first | exact HB.out | apply below_alloc | apply pw_below_drewN | apply below_drew1) | exact HB.out)) hb); have n1_ := Aside0.mk (hbox); have n2_ := Aside0.mk ((by rw [hg]; exact (below_size (by repeat (first | (with_reducible first | exact HB.out | apply below_alloc | apply pw_below_drewN | apply below_drew1) | exact HB.out))) : w.heap.size ≤ gb124)); have n3_ := Aside0.mk ((by rw [hg]; exact (below_size (by repeat (first | (with_reducible first | exact HB.out | apply below_alloc | apply pw_below_drewN | apply below_drew1) | exact HB.out))) : w.heap.size ≤ gb124)); clear HB; have HB := n0_; have BK124 := n1_; have GW124 := n2_; have GE124 := n3_; clear n0_ n1_ n2_ n3_; clear hb hbox hg) | ((with_reducible refine gate_callee (f := 15) rfl ?_); refine goesL_ (some 9) rfl rfl Tryd.func15 (by kernel_rfl) rfl #[] rfl (by (try simp only [List.map_toArray, List.map_cons, List.map_nil]); first | done | rfl | (simp only [List.length_drop, List.length_take]; rfl)) ?_; (with_reducible refine (ask_forms.calls  t125 _ A2.out).mono ?_); rintro e w4 ⟨v126, rfl, ho0, hb⟩; refine ⟨_, rfl, ?_⟩; have n0_ := Aside0.mk (Kd.R_lower ho0 (below_size (by repeat (first | (with_reducible first | exact HB.out | apply below_alloc | apply pw_below_drewN | apply below_drew1 | refine below_set ?_ GE124.out) | exact HB.out)))); have n1_ := Aside0.mk (blk_below (g := gb124) (o := .cells #[.int .i64 a0_0, .int .i64 a0_1, .int .i64 a0_2, .int .i64 a0_3, .string a0_4, .slice A0_5 l0_5.length c0_5] 25 (0, 0)) (by (with_reducible repeat (first | refine blk_drewN ?_ _ | refine blk_drew ?_ | refine blk_alloc ?_ _)); exact BK124.out) hb); have n2_ := Aside0.mk (below_step (by repeat (first | (with_reducible first | exact HB.out | apply below_alloc | apply pw_below_drewN | apply below_drew1 | refine below_set ?_ GE124.out) | exact HB.out)) hb); clear BK124; clear HB; have HO127 := n0_; have BK124 := n1_; have HB := n2_; clear n0_ n1_ n2_; (try clear hb); (try clear hb2); (try clear hk); (try clear hi); (try clear ho0); obtain ⟨Ao5, co5, eo5⟩ := Kd.R_slice HO127.out; subst eo5))
  go_loopg [11] k (fun kq v11 w' => ∃ (x11_1 : Int), v11 = .int .i64 x11_1 ∧ Aside0 (ask_Encode.l0 kq t125 (t125.length : Int) x11_1 a0_0 a0_1 a0_2 a0_3 a0_4 l0_5 = some r) ∧ Aside0 (kq ≤ k) ∧ Aside0 (Kd.R k47 47 w' w.heap.size (fun _ => True) (.slice Ao5 t125.length co5) t125) ∧ Aside0 (w'.heap[gb124]? = some (.cells #[.int .i64 a0_0, .int .i64 a0_1, .int .i64 a0_2, .int .i64 a0_3, .string a0_4, (.slice A0_5 l0_5.length c0_5)] 25 (0, 0))) ∧ Aside0 (Below w.heap.size w w'))
  case atStart => exact ⟨(0), (by first | rfl | (simp; done) | (simp; exact (fun l_ : List UInt8 => (by cases l_ <;> rfl : l_.isEmpty = !(l_ != []))) _) | (simp [*]; done)), H', ⟨Nat.le_refl _⟩, ⟨by (with_reducible repeat (first | apply Kd.R_alloc | apply Kd.R_drewN | apply Kd.R_drew)); exact HO127.out⟩, ⟨by (with_reducible repeat (first | refine blk_drewN ?_ _ | refine blk_drew ?_ | refine blk_alloc ?_ _)); exact BK124.out⟩, ⟨by repeat (first | (with_reducible first | exact HB.out | apply below_alloc | apply pw_below_drewN | apply below_drew1 | refine below_set ?_ GE124.out) | exact HB.out)⟩⟩
  case round =>
    clear H'
    try clear c1
    try clear p2
    obtain ⟨x11_1, rfl, HA, HK1, HO_9, BK124, HB⟩ := hrel
    cases gk with
    | zero => exact absurd HA.out (by simp [ask_Encode.l0])
    | succ k1 =>
      have H := HA.out
      clear HA
      simp only [ask_Encode.l0] at H
      by_cases c6 : x11_1 < (t125.length : Int)
      · rw [if_pos c6] at H
        have c6b0 : decide (x11_1 < (t125.length : Int)) = true := decide_eq_true c6
        clear c6
        by_cases c7 : 0 ≤ x11_1
        · rw [if_pos c7] at H
          have c7b0 : decide (0 ≤ x11_1) = true := decide_eq_true c7
          clear c7
          by_cases c8 : x11_1 < (t125.length : Int)
          · rw [if_pos c8] at H
            have c8b0 : decide (x11_1 < (t125.length : Int)) = true := decide_eq_true c8
            clear c8
            by_cases c9 : ((rd_T47 t125 x11_1).f1) = a0_0
            · rw [if_pos c9] at H
              have c9b0 : (((rd_T47 t125 x11_1).f1) == a0_0) = true := beq_iff_eq.mpr c9
              have c9b1 : (((rd_T47 t125 x11_1).f1) != a0_0) = false := bne_eq_false_iff_eq.mpr c9
              clear c9
              obtain ⟨y130, hy130⟩ : ∃ y_ : List ByteArray, y_ = (([(rd_T47 t125 x11_1).f0] : List ByteArray)) := ⟨_, rfl⟩
              replace H : (if (rd_T47 t125 x11_1).f2 = true then ((strconv_Itoa.f a0_1).bind fun t133 => (if y130.length < 8796093022208 then (ask_Encode.j1 k1 (y130 ++ [t133]) a0_0 a0_1 a0_2 a0_3 a0_4 l0_5 ((rd_T47 t125 x11_1).f0) ((rd_T47 t125 x11_1).f1) ((rd_T47 t125 x11_1).f2) ((rd_T47 t125 x11_1).f3) ((rd_T47 t125 x11_1).f4) ((rd_T47 t125 x11_1).f5) ((rd_T47 t125 x11_1).f6)) else (none))) else (ask_Encode.j1 k1 y130 a0_0 a0_1 a0_2 a0_3 a0_4 l0_5 ((rd_T47 t125 x11_1).f0) ((rd_T47 t125 x11_1).f1) ((rd_T47 t125 x11_1).f2) ((rd_T47 t125 x11_1).f3) ((rd_T47 t125 x11_1).f4) ((rd_T47 t125 x11_1).f5) ((rd_T47 t125 x11_1).f6))) = some r := by first | (rw [hy130]; with_reducible exact H) | (have H2_ := (Option.bind_some _ _).symm.trans H; rw [hy130]; with_reducible exact H2_) | (have H2_ := (Option.bind_some _ _).symm.trans H; with_reducible exact H2_) | with_reducible exact H | (rw [hy130]; exact H) | exact H
              have Ny130 := Aside0.mk hy130
              clear hy130
              have HC10 := Aside0.mk H
              clear H
              have p128 : 0 ≤ (x11_1 : Int) := of_decide_eq_true (by first | (with_reducible assumption) | assumption)
              have q128 : x11_1 < (t125.length : Int) := of_decide_eq_true (by first | (with_reducible assumption) | assumption)
              obtain ⟨ad128, e128, hx128_0, hx128_1, hx128_2, hx128_3, hx128_4, hx128_5, hx128_6⟩ := at_T47 (Kd.R_reads' HO_9.out).2.2 x11_1 p128 q128
              cases e128
              replace p128 := eq_true p128
              replace q128 := eq_true q128
              go_upto_if 24 with (first | ((with_reducible refine gate_dst (N := 4) rfl ?_); (try (refine gate_guard (by rfl) ?_; dsimp only)); refine box_event ?hg (N := 4) ?hd (cs := #[.string (⟨#[]⟩ : ByteArray), .int .i64 0, .bool false, .bool false, .bool false, .bool false, .bool false]) (t := 47) ?hr ?_; (case hd => rfl); (case hg => rfl); (case hr => first | (go_simp; done) | (go_simp; rfl)); intro gb129 hg w11 hbox hb; have n0_ := Aside0.mk (Kd.R_below (Kd.R_elderB (by (with_reducible repeat (first | apply Kd.R_alloc | apply Kd.R_drewN | apply Kd.R_drew)); exact HO_9.out) gb129 (Nat.le_of_eq hg.symm)) hb); have n1_ := Aside0.mk (blk_below (g := gb124) (o := .cells #[.int .i64 a0_0, .int .i64 a0_1, .int .i64 a0_2, .int .i64 a0_3, .string a0_4, .slice A0_5 l0_5.length c0_5] 25 (0, 0)) (by (with_reducible repeat (first | refine blk_drewN ?_ _ | refine blk_drew ?_ | refine blk_alloc ?_ _)); exact BK124.out) hb); have n2_ := Aside0.mk (below_step (by repeat (first | (with_reducible first | exact HB.out | apply below_alloc | apply pw_below_drewN | apply below_drew1 | refine below_set ?_ GE124.out) | exact HB.out)) hb); have n3_ := Aside0.mk (hbox); have n4_ := Aside0.mk ((by rw [hg]; exact (below_size (by repeat (first | (with_reducible first | exact HB.out | apply below_alloc | apply pw_below_drewN | apply below_drew1 | refine below_set ?_ GE124.out) | exact HB.out))) : w.heap.size ≤ gb129)); have n5_ := Aside0.mk ((by rw [hg]; exact (below_size (by repeat (first | (with_reducible first | exact HB.out | apply below_alloc | apply pw_below_drewN | apply below_drew1 | refine below_set ?_ GE124.out) | exact HB.out))) : w.heap.size ≤ gb129)); have n6_ := Aside0.mk ((by rw [hg]; exact Nat.ne_of_lt (blk_lt (g := gb124) (o := .cells #[.int .i64 a0_0, .int .i64 a0_1, .int .i64 a0_2, .int .i64 a0_3, .string a0_4, .slice A0_5 l0_5.length c0_5] 25 (0, 0)) (by (with_reducible repeat (first | refine blk_drewN ?_ _ | refine blk_drew ?_ | refine blk_alloc ?_ _)); exact BK124.out)) : gb124 ≠ gb129)); have n7_ := Aside0.mk ((by rw [hg]; exact Nat.ne_of_gt (blk_lt (g := gb124) (o := .cells #[.int .i64 a0_0, .int .i64 a0_1, .int .i64 a0_2, .int .i64 a0_3, .string a0_4, .slice A0_5 l0_5.length c0_5] 25 (0, 0)) (by (with_reducible repeat (first | refine blk_drewN ?_ _ | refine blk_drew ?_ | refine blk_alloc ?_ _)); exact BK124.out)) : gb129 ≠ gb124)); clear HO_9; clear BK124; clear HB; have HO_9 := n0_; have BK124 := n1_; have HB := n2_; have BK129 := n3_; have GW129 := n4_; have GE129 := n5_; have NB124_129 := n6_; have NB129_124 := n7_; clear n0_ n1_ n2_ n3_ n4_ n5_ n6_ n7_; clear hb hbox hg; have hnb12 := NB129_124.out; have hnc12 := NB124_129.out; have hcz13_0 : w11.cell? ⟨gb129, 0, none⟩ = some (.string (⟨#[]⟩ : ByteArray)) := (blk_cell BK129.out 0).trans rfl; have hcz13_1 : w11.cell? ⟨gb129, 1, none⟩ = some (.int .i64 0) := (blk_cell BK129.out 1).trans rfl; have hcz13_2 : w11.cell? ⟨gb129, 2, none⟩ = some (.bool false) := (blk_cell BK129.out 2).trans rfl; have hcz13_3 : w11.cell? ⟨gb129, 3, none⟩ = some (.bool false) := (blk_cell BK129.out 3).trans rfl; have hcz13_4 : w11.cell? ⟨gb129, 4, none⟩ = some (.bool false) := (blk_cell BK129.out 4).trans rfl; have hcz13_5 : w11.cell? ⟨gb129, 5, none⟩ = some (.bool false) := (blk_cell BK129.out 5).trans rfl; have hcz13_6 : w11.cell? ⟨gb129, 6, none⟩ = some (.bool false) := (blk_cell BK129.out 6).trans rfl; have hfz13_0 := blk_frozen BK129.out 0; have hfz13_1 := blk_frozen BK129.out 1; have hfz13_2 := blk_frozen BK129.out 2; have hfz13_3 := blk_frozen BK129.out 3; have hfz13_4 := blk_frozen BK129.out 4; have hfz13_5 := blk_frozen BK129.out 5; have hfz13_6 := blk_frozen BK129.out 6; have hcz14_0 : w11.cell? ⟨gb124, 0, none⟩ = some (.int .i64 a0_0) := (blk_cell BK124.out 0).trans rfl; have hcz14_1 : w11.cell? ⟨gb124, 1, none⟩ = some (.int .i64 a0_1) := (blk_cell BK124.out 1).trans rfl; have hcz14_2 : w11.cell? ⟨gb124, 2, none⟩ = some (.int .i64 a0_2) := (blk_cell BK124.out 2).trans rfl; have hcz14_3 : w11.cell? ⟨gb124, 3, none⟩ = some (.int .i64 a0_3) := (blk_cell BK124.out 3).trans rfl; have hcz14_4 : w11.cell? ⟨gb124, 4, none⟩ = some (.string a0_4) := (blk_cell BK124.out 4).trans rfl; have hcz14_5 : w11.cell? ⟨gb124, 5, none⟩ = some (.slice A0_5 l0_5.length c0_5) := (blk_cell BK124.out 5).trans rfl; have hfz14_0 := blk_frozen BK124.out 0; have hfz14_1 := blk_frozen BK124.out 1; have hfz14_2 := blk_frozen BK124.out 2; have hfz14_3 := blk_frozen BK124.out 3; have hfz14_4 := blk_frozen BK124.out 4; have hfz14_5 := blk_frozen BK124.out 5) | ((with_reducible refine gate_dst (N := 22) rfl ?_); (try (refine gate_guard (by rfl) ?_; dsimp only)); refine Kd.R_lit Kd.string _ 9 ?hg (N := 22) ?hd (xs := ([(rd_T47 t125 x11_1).f0] : List ByteArray)) (inner := [.string ((rd_T47 t125 x11_1).f0)]) (ok := fun _ => True) (okp := fun _ => True) ?hr ?hp (fun _ hk => hk) trivial (Below.refl _ _) (Nat.le_refl _) (by simp) ?_; (case hd => rfl); (case hg => rfl); (case hr => first | (go_simp; done) | (go_simp; rfl)); (case hp => exact (Reps.one (show Kd.M Kd.string _ _ _ ((rd_T47 t125 x11_1).f0) [.string ((rd_T47 t125 x11_1).f0)] from rfl) (Reps.none _ _))); intro v131 w15 ho16 hb hg_ hnew_; clear hg_ hnew_; (first | rw [← Ny130.out] at ho16 | (simp only [Int.reduceToNat] at ho16; rw [← Ny130.out] at ho16)); have n0_ := Aside0.mk (Kd.R_below (by (with_reducible repeat (first | apply Kd.R_alloc | apply Kd.R_drewN | apply Kd.R_drew)); exact (Kd.R_mono (Kd.R_far (p := ⟨gb129, 6, none⟩) (Kd.R_far (p := ⟨gb129, 5, none⟩) (Kd.R_far (p := ⟨gb129, 4, none⟩) (Kd.R_far (p := ⟨gb129, 3, none⟩) (Kd.R_far (p := ⟨gb129, 2, none⟩) (Kd.R_far (p := ⟨gb129, 1, none⟩) (Kd.R_far (p := ⟨gb129, 0, none⟩) (Kd.R_mono HO_9.out (fun k_ hk => (⟨hk, hk.2⟩ : _ ∧ k_ ≠ gb129))) (fun _ hk => hk.2) (.string ((rd_T47 t125 x11_1).f0))) (fun _ hk => hk.2) (.int .i64 ((rd_T47 t125 x11_1).f1))) (fun _ hk => hk.2) (.bool ((rd_T47 t125 x11_1).f2))) (fun _ hk => hk.2) (.bool ((rd_T47 t125 x11_1).f3))) (fun _ hk => hk.2) (.bool ((rd_T47 t125 x11_1).f4))) (fun _ hk => hk.2) (.bool ((rd_T47 t125 x11_1).f5))) (fun _ hk => hk.2) (.bool ((rd_T47 t125 x11_1).f6))) (fun _ h_ => h_.1))) hb); have n1_ := Aside0.mk (Kd.R_lower ho16 (below_size (by repeat (first | (with_reducible first | exact HB.out | apply below_alloc | apply pw_below_drewN | apply below_drew1 | refine below_set ?_ GE124.out | refine below_set ?_ GE129.out) | exact HB.out)))); have n2_ := Aside0.mk (blk_below (g := gb124) (o := .cells #[.int .i64 a0_0, .int .i64 a0_1, .int .i64 a0_2, .int .i64 a0_3, .string a0_4, .slice A0_5 l0_5.length c0_5] 25 (0, 0)) (by (with_reducible repeat (first | refine blk_drewN ?_ _ | refine blk_drew ?_ | refine blk_alloc ?_ _)); refine blk_far ?_ NB124_129.out _; (with_reducible repeat (first | refine blk_drewN ?_ _ | refine blk_drew ?_ | refine blk_alloc ?_ _)); refine blk_far ?_ NB124_129.out _; (with_reducible repeat (first | refine blk_drewN ?_ _ | refine blk_drew ?_ | refine blk_alloc ?_ _)); refine blk_far ?_ NB124_129.out _; (with_reducible repeat (first | refine blk_drewN ?_ _ | refine blk_drew ?_ | refine blk_alloc ?_ _)); refine blk_far ?_ NB124_129.out _; (with_reducible repeat (first | refine blk_drewN ?_ _ | refine blk_drew ?_ | refine blk_alloc ?_ _)); refine blk_far ?_ NB124_129.out _; (with_reducible repeat (first | refine blk_drewN ?_ _ | refine blk_drew ?_ | refine blk_alloc ?_ _)); refine blk_far ?_ NB124_129.out _; (with_reducible repeat (first | refine blk_drewN ?_ _ | refine blk_drew ?_ | refine blk_alloc ?_ _)); refine blk_far ?_ NB124_129.out _; (with_reducible repeat (first | refine blk_drewN ?_ _ | refine blk_drew ?_ | refine blk_alloc ?_ _)); exact BK124.out) hb); have n3_ := Aside0.mk (blk_below (g := gb129) (o := .cells #[.string ((rd_T47 t125 x11_1).f0), .int .i64 ((rd_T47 t125 x11_1).f1), .bool ((rd_T47 t125 x11_1).f2), .bool ((rd_T47 t125 x11_1).f3), .bool ((rd_T47 t125 x11_1).f4), .bool ((rd_T47 t125 x11_1).f5), .bool ((rd_T47 t125 x11_1).f6)] 47 (0, 0)) (by (with_reducible repeat (first | refine blk_drewN ?_ _ | refine blk_drew ?_ | refine blk_alloc ?_ _)); refine blk_put (cs := #[.string ((rd_T47 t125 x11_1).f0), .int .i64 ((rd_T47 t125 x11_1).f1), .bool ((rd_T47 t125 x11_1).f2), .bool ((rd_T47 t125 x11_1).f3), .bool ((rd_T47 t125 x11_1).f4), .bool ((rd_T47 t125 x11_1).f5), .bool false]) ?_ 6 _ rfl; (with_reducible repeat (first | refine blk_drewN ?_ _ | refine blk_drew ?_ | refine blk_alloc ?_ _)); refine blk_put (cs := #[.string ((rd_T47 t125 x11_1).f0), .int .i64 ((rd_T47 t125 x11_1).f1), .bool ((rd_T47 t125 x11_1).f2), .bool ((rd_T47 t125 x11_1).f3), .bool ((rd_T47 t125 x11_1).f4), .bool false, .bool false]) ?_ 5 _ rfl; (with_reducible repeat (first | refine blk_drewN ?_ _ | refine blk_drew ?_ | refine blk_alloc ?_ _)); refine blk_put (cs := #[.string ((rd_T47 t125 x11_1).f0), .int .i64 ((rd_T47 t125 x11_1).f1), .bool ((rd_T47 t125 x11_1).f2), .bool ((rd_T47 t125 x11_1).f3), .bool false, .bool false, .bool false]) ?_ 4 _ rfl; (with_reducible repeat (first | refine blk_drewN ?_ _ | refine blk_drew ?_ | refine blk_alloc ?_ _)); refine blk_put (cs := #[.string ((rd_T47 t125 x11_1).f0), .int .i64 ((rd_T47 t125 x11_1).f1), .bool ((rd_T47 t125 x11_1).f2), .bool false, .bool false, .bool false, .bool false]) ?_ 3 _ rfl; (with_reducible repeat (first | refine blk_drewN ?_ _ | refine blk_drew ?_ | refine blk_alloc ?_ _)); refine blk_put (cs := #[.string ((rd_T47 t125 x11_1).f0), .int .i64 ((rd_T47 t125 x11_1).f1), .bool false, .bool false, .bool false, .bool false, .bool false]) ?_ 2 _ rfl; (with_reducible repeat (first | refine blk_drewN ?_ _ | refine blk_drew ?_ | refine blk_alloc ?_ _)); refine blk_put (cs := #[.string ((rd_T47 t125 x11_1).f0), .int .i64 0, .bool false, .bool false, .bool false, .bool false, .bool false]) ?_ 1 _ rfl; (with_reducible repeat (first | refine blk_drewN ?_ _ | refine blk_drew ?_ | refine blk_alloc ?_ _)); refine blk_put (cs := #[.string (⟨#[]⟩ : ByteArray), .int .i64 0, .bool false, .bool false, .bool false, .bool false, .bool false]) ?_ 0 _ rfl; (with_reducible repeat (first | refine blk_drewN ?_ _ | refine blk_drew ?_ | refine blk_alloc ?_ _)); exact BK129.out) hb); have n4_ := Aside0.mk (below_step (by repeat (first | (with_reducible first | exact HB.out | apply below_alloc | apply pw_below_drewN | apply below_drew1 | refine below_set ?_ GE124.out | refine below_set ?_ GE129.out) | exact HB.out)) hb); clear HO_9; clear BK124; clear BK129; clear HB; have HO_9 := n0_; have HO132 := n1_; have BK124 := n2_; have BK129 := n3_; have HB := n4_; clear n0_ n1_ n2_ n3_ n4_; clear hb ho16; have hcz17_0 : w15.cell? ⟨gb129, 0, none⟩ = some (.string ((rd_T47 t125 x11_1).f0)) := (blk_cell BK129.out 0).trans rfl; have hcz17_1 : w15.cell? ⟨gb129, 1, none⟩ = some (.int .i64 ((rd_T47 t125 x11_1).f1)) := (blk_cell BK129.out 1).trans rfl; have hcz17_2 : w15.cell? ⟨gb129, 2, none⟩ = some (.bool ((rd_T47 t125 x11_1).f2)) := (blk_cell BK129.out 2).trans rfl; have hcz17_3 : w15.cell? ⟨gb129, 3, none⟩ = some (.bool ((rd_T47 t125 x11_1).f3)) := (blk_cell BK129.out 3).trans rfl; have hcz17_4 : w15.cell? ⟨gb129, 4, none⟩ = some (.bool ((rd_T47 t125 x11_1).f4)) := (blk_cell BK129.out 4).trans rfl; have hcz17_5 : w15.cell? ⟨gb129, 5, none⟩ = some (.bool ((rd_T47 t125 x11_1).f5)) := (blk_cell BK129.out 5).trans rfl; have hcz17_6 : w15.cell? ⟨gb129, 6, none⟩ = some (.bool ((rd_T47 t125 x11_1).f6)) := (blk_cell BK129.out 6).trans rfl; have hfz17_0 := blk_frozen BK129.out 0; have hfz17_1 := blk_frozen BK129.out 1; have hfz17_2 := blk_frozen BK129.out 2; have hfz17_3 := blk_frozen BK129.out 3; have hfz17_4 := blk_frozen BK129.out 4; have hfz17_5 := blk_frozen BK129.out 5; have hfz17_6 := blk_frozen BK129.out 6))
              (try simp only [Act.put, List.setIfInBounds_toArray, List.set_cons_zero, List.set_cons_succ])
              go_cut [5] (fun v5 wc => ∃ (kq : Nat) (x5_9 : List ByteArray), Aside0 (ask_Encode.j1 kq x5_9 a0_0 a0_1 a0_2 a0_3 a0_4 l0_5 ((rd_T47 t125 x11_1).f0) ((rd_T47 t125 x11_1).f1) ((rd_T47 t125 x11_1).f2) ((rd_T47 t125 x11_1).f3) ((rd_T47 t125 x11_1).f4) ((rd_T47 t125 x11_1).f5) ((rd_T47 t125 x11_1).f6) = some r) ∧ Aside0 (kq ≤ k1) ∧ Aside0 (Kd.R Kd.string 9 wc w.heap.size (fun _ => True) v5 x5_9) ∧ Aside0 (wc.heap[gb124]? = some (.cells #[.int .i64 a0_0, .int .i64 a0_1, .int .i64 a0_2, .int .i64 a0_3, .string a0_4, (.slice A0_5 l0_5.length c0_5)] 25 (0, 0))) ∧ Aside0 (wc.heap[gb129]? = some (.cells #[.string ((rd_T47 t125 x11_1).f0), .int .i64 ((rd_T47 t125 x11_1).f1), .bool ((rd_T47 t125 x11_1).f2), .bool ((rd_T47 t125 x11_1).f3), .bool ((rd_T47 t125 x11_1).f4), .bool ((rd_T47 t125 x11_1).f5), .bool ((rd_T47 t125 x11_1).f6)] 47 (0, 0))) ∧ Aside0 (Below w.heap.size w wc))
              case first =>
                have H := HC10.out
                clear HC10
                obtain ⟨bq18, hbq18⟩ : ∃ b_ : Bool, b_ = ((rd_T47 t125 x11_1).f2) := ⟨_, rfl⟩
                replace H : (if bq18 = true then ((strconv_Itoa.f a0_1).bind fun t133 => (if y130.length < 8796093022208 then (ask_Encode.j1 k1 (y130 ++ [t133]) a0_0 a0_1 a0_2 a0_3 a0_4 l0_5 ((rd_T47 t125 x11_1).f0) ((rd_T47 t125 x11_1).f1) bq18 ((rd_T47 t125 x11_1).f3) ((rd_T47 t125 x11_1).f4) ((rd_T47 t125 x11_1).f5) ((rd_T47 t125 x11_1).f6)) else (none))) else (ask_Encode.j1 k1 y130 a0_0 a0_1 a0_2 a0_3 a0_4 l0_5 ((rd_T47 t125 x11_1).f0) ((rd_T47 t125 x11_1).f1) bq18 ((rd_T47 t125 x11_1).f3) ((rd_T47 t125 x11_1).f4) ((rd_T47 t125 x11_1).f5) ((rd_T47 t125 x11_1).f6))) = some r := by rw [← hbq18] at H; exact H
                have Nbq18 := Aside0.mk hbq18
                clear hbq18
                (try rw [← Nbq18.out])
                (try rw [← Nbq18.out] at BK124)
                (try rw [← Nbq18.out] at BK129)
                by_cases c19 : bq18 = true
                · subst c19
                  have H1 : ((strconv_Itoa.f a0_1).bind fun t133 => (if y130.length < 8796093022208 then (ask_Encode.j1 k1 (y130 ++ [t133]) a0_0 a0_1 a0_2 a0_3 a0_4 l0_5 ((rd_T47 t125 x11_1).f0) ((rd_T47 t125 x11_1).f1) true ((rd_T47 t125 x11_1).f3) ((rd_T47 t125 x11_1).f4) ((rd_T47 t125 x11_1).f5) ((rd_T47 t125 x11_1).f6)) else (none))) = some r := by rw [if_pos rfl] at H; exact H
                  clear H
                  have H := H1
                  clear H1
                  replace H := Option.bind_eq_some_iff.mp H
                  obtain ⟨t133, A200, H⟩ := H
                  replace H : (if y130.length < 8796093022208 then (ask_Encode.j1 k1 (y130 ++ [t133]) a0_0 a0_1 a0_2 a0_3 a0_4 l0_5 ((rd_T47 t125 x11_1).f0) ((rd_T47 t125 x11_1).f1) true ((rd_T47 t125 x11_1).f3) ((rd_T47 t125 x11_1).f4) ((rd_T47 t125 x11_1).f5) ((rd_T47 t125 x11_1).f6)) else (none)) = some r := H
                  have A20 := Aside0.mk A200
                  clear A200
                  by_cases c21 : y130.length < 8796093022208
                  · rw [if_pos c21] at H
                    have LMc21 := Aside0.mk c21
                    clear c21
                    obtain ⟨y134, hy134⟩ : ∃ y_ : List ByteArray, y_ = (y130 ++ [t133]) := ⟨_, rfl⟩
                    replace H : (ask_Encode.j1 k1 y134 a0_0 a0_1 a0_2 a0_3 a0_4 l0_5 ((rd_T47 t125 x11_1).f0) ((rd_T47 t125 x11_1).f1) true ((rd_T47 t125 x11_1).f3) ((rd_T47 t125 x11_1).f4) ((rd_T47 t125 x11_1).f5) ((rd_T47 t125 x11_1).f6)) = some r := by first | (rw [hy134]; with_reducible exact H) | (have H2_ := (Option.bind_some _ _).symm.trans H; rw [hy134]; with_reducible exact H2_) | (have H2_ := (Option.bind_some _ _).symm.trans H; with_reducible exact H2_) | with_reducible exact H | (rw [hy134]; exact H) | exact H
                    have Ny134 := Aside0.mk hy134
                    clear hy134
                    have H' := Aside0.mk H
                    clear H
                    have hnb22 := NB124_129.out
                    have hnc22 := NB129_124.out
                    have hcz23_0 : w15.cell? ⟨gb124, 0, none⟩ = some (.int .i64 a0_0) := (blk_cell BK124.out 0).trans rfl
                    have hcz23_1 : w15.cell? ⟨gb124, 1, none⟩ = some (.int .i64 a0_1) := (blk_cell BK124.out 1).trans rfl
                    have hcz23_2 : w15.cell? ⟨gb124, 2, none⟩ = some (.int .i64 a0_2) := (blk_cell BK124.out 2).trans rfl
                    have hcz23_3 : w15.cell? ⟨gb124, 3, none⟩ = some (.int .i64 a0_3) := (blk_cell BK124.out 3).trans rfl
                    have hcz23_4 : w15.cell? ⟨gb124, 4, none⟩ = some (.string a0_4) := (blk_cell BK124.out 4).trans rfl
                    have hcz23_5 : w15.cell? ⟨gb124, 5, none⟩ = some (.slice A0_5 l0_5.length c0_5) := (blk_cell BK124.out 5).trans rfl
                    have hfz23_0 := blk_frozen BK124.out 0
                    have hfz23_1 := blk_frozen BK124.out 1
                    have hfz23_2 := blk_frozen BK124.out 2
                    have hfz23_3 := blk_frozen BK124.out 3
                    have hfz23_4 := blk_frozen BK124.out 4
                    have hfz23_5 := blk_frozen BK124.out 5
                    go_wp2_with (first | ((with_reducible refine gate_callee (f := 20) rfl ?_); refine goesL_ (some 28) rfl rfl Tryd.func20 (by kernel_rfl) rfl #[.int .i64 a0_1] rfl (by (try simp only [List.map_toArray, List.map_cons, List.map_nil]); first | done | rfl | (simp only [List.length_drop, List.length_take]; rfl)) ?_; (with_reducible refine (strconv_Itoa.calls a0_1 t133 _ ?side1 A20.out).mono ?_); (case side1 => exact HE_.out.below (by repeat (first | (with_reducible first | exact HB.out | apply below_alloc | apply pw_below_drewN | apply below_drew1 | refine below_set ?_ GE124.out | refine below_set ?_ GE129.out) | exact HB.out))); rintro e w24 ⟨rfl, hb⟩; refine ⟨_, rfl, ?_⟩; have n0_ := Aside0.mk (Kd.R_below (by (with_reducible repeat (first | apply Kd.R_alloc | apply Kd.R_drewN | apply Kd.R_drew)); exact HO_9.out) hb); have n1_ := Aside0.mk (Kd.R_below (by (with_reducible repeat (first | apply Kd.R_alloc | apply Kd.R_drewN | apply Kd.R_drew)); exact HO132.out) hb); have n2_ := Aside0.mk (blk_below (g := gb124) (o := .cells #[.int .i64 a0_0, .int .i64 a0_1, .int .i64 a0_2, .int .i64 a0_3, .string a0_4, .slice A0_5 l0_5.length c0_5] 25 (0, 0)) (by (with_reducible repeat (first | refine blk_drewN ?_ _ | refine blk_drew ?_ | refine blk_alloc ?_ _)); exact BK124.out) hb); have n3_ := Aside0.mk (blk_below (g := gb129) (o := .cells #[.string ((rd_T47 t125 x11_1).f0), .int .i64 ((rd_T47 t125 x11_1).f1), .bool true, .bool ((rd_T47 t125 x11_1).f3), .bool ((rd_T47 t125 x11_1).f4), .bool ((rd_T47 t125 x11_1).f5), .bool ((rd_T47 t125 x11_1).f6)] 47 (0, 0)) (by (with_reducible repeat (first | refine blk_drewN ?_ _ | refine blk_drew ?_ | refine blk_alloc ?_ _)); exact BK129.out) hb); have n4_ := Aside0.mk (below_step (by repeat (first | (with_reducible first | exact HB.out | apply below_alloc | apply pw_below_drewN | apply below_drew1 | refine below_set ?_ GE124.out | refine below_set ?_ GE129.out) | exact HB.out)) hb); clear HO_9; clear HO132; clear BK124; clear BK129; clear HB; have HO_9 := n0_; have HO132 := n1_; have BK124 := n2_; have BK129 := n3_; have HB := n4_; clear n0_ n1_ n2_ n3_ n4_; (try clear hb); (try clear hb2); (try clear hk); (try clear hi)) | ((with_reducible refine gate_builtin (b := .append) (xs := #[.tmp 25, .tmp 29]) rfl ?_); (try (refine gate_guard (by rfl) ?_; dsimp only)); at_builtin; refine Kd.R_append Kd.string (w0 := w) w.heap.size rfl (.tmp 25) (.tmp 29) 48 9 (.string ⟨#[]⟩) 16 rfl Tryd.underlying48 info9 rfl (by decide) (by omega) v131 y130 t133 [.string t133] (fun _ => True) (fun _ => False) rfl rfl ?aP (fun _ hk => hk.elim) ?aF ?aO ?aB ?aS ?aL ?_; (case aP => exact rfl); (case aB => exact (by repeat (first | (with_reducible first | exact HB.out | apply below_alloc | apply pw_below_drewN | apply below_drew1 | refine below_set ?_ GE124.out | refine below_set ?_ GE129.out) | exact HB.out))); (case aF => exact (fun _ _ => trivial)); (case aO => exact (by (with_reducible repeat (first | apply Kd.R_alloc | apply Kd.R_drewN | apply Kd.R_drew)); exact HO132.out)); (case aS => exact (below_size (by repeat (first | (with_reducible first | exact HB.out | apply below_alloc | apply pw_below_drewN | apply below_drew1 | refine below_set ?_ GE124.out | refine below_set ?_ GE129.out) | exact HB.out)))); (case aL => have := LMc21.out; omega); intro v135 w25 ho hb hg hat; rw [← Ny134.out] at ho; have n0_ := Aside0.mk (Kd.R_over' (by (with_reducible repeat (first | apply Kd.R_alloc | apply Kd.R_drewN | apply Kd.R_drew)); exact HO_9.out) (Kd.R_typed (by (with_reducible repeat (first | apply Kd.R_alloc | apply Kd.R_drewN | apply Kd.R_drew)); exact HO132.out)) (by decide) hg); have n1_ := Aside0.mk (blk_grown (g := gb124) (o := .cells #[.int .i64 a0_0, .int .i64 a0_1, .int .i64 a0_2, .int .i64 a0_3, .string a0_4, .slice A0_5 l0_5.length c0_5] 25 (0, 0)) (by (with_reducible repeat (first | refine blk_drewN ?_ _ | refine blk_drew ?_ | refine blk_alloc ?_ _)); exact BK124.out) hg (Kd.R_ne HO132.out BK124.out (by decide))); have n2_ := Aside0.mk (blk_grown (g := gb129) (o := .cells #[.string ((rd_T47 t125 x11_1).f0), .int .i64 ((rd_T47 t125 x11_1).f1), .bool true, .bool ((rd_T47 t125 x11_1).f3), .bool ((rd_T47 t125 x11_1).f4), .bool ((rd_T47 t125 x11_1).f5), .bool ((rd_T47 t125 x11_1).f6)] 47 (0, 0)) (by (with_reducible repeat (first | refine blk_drewN ?_ _ | refine blk_drew ?_ | refine blk_alloc ?_ _)); exact BK129.out) hg (Kd.R_ne HO132.out BK129.out (by decide))); have n3_ := Aside0.mk (hb); have n4_ := Aside0.mk (ho); clear HO_9; clear BK124; clear BK129; clear HB; clear HO132; have HO_9 := n0_; have BK124 := n1_; have BK129 := n2_; have HB := n3_; have HO136 := n4_; clear n0_ n1_ n2_ n3_ n4_; clear ho hb hg hat))
                    go_meet
                    case rel => (try rw [← Nbq18.out]); exact ⟨_, (y134), H', ⟨by have := HK1.out; first | omega | exact Nat.le_refl _⟩, ⟨by (with_reducible repeat (first | apply Kd.R_alloc | apply Kd.R_drewN | apply Kd.R_drew)); exact HO136.out⟩, ⟨by (with_reducible repeat (first | refine blk_drewN ?_ _ | refine blk_drew ?_ | refine blk_alloc ?_ _)); exact BK124.out⟩, ⟨by (with_reducible repeat (first | refine blk_drewN ?_ _ | refine blk_drew ?_ | refine blk_alloc ?_ _)); exact BK129.out⟩, ⟨by repeat (first | (with_reducible first | exact HB.out | apply below_alloc | apply pw_below_drewN | apply below_drew1 | refine below_set ?_ GE124.out | refine below_set ?_ GE129.out) | exact HB.out)⟩⟩
                  · rw [if_neg c21] at H
                    exact absurd H (by simp)
                · replace c19 := Bool.eq_false_iff.mpr c19
                  subst c19
                  have H1 : (ask_Encode.j1 k1 y130 a0_0 a0_1 a0_2 a0_3 a0_4 l0_5 ((rd_T47 t125 x11_1).f0) ((rd_T47 t125 x11_1).f1) false ((rd_T47 t125 x11_1).f3) ((rd_T47 t125 x11_1).f4) ((rd_T47 t125 x11_1).f5) ((rd_T47 t125 x11_1).f6)) = some r := by rw [if_neg (show ¬ (false = true) by decide)] at H; exact H
                  clear H
                  have H := H1
                  clear H1
                  have H' := Aside0.mk H
                  clear H
                  go_wp2
                  go_meet
                  case rel => (try rw [← Nbq18.out]); exact ⟨_, (y130), H', ⟨by have := HK1.out; first | omega | exact Nat.le_refl _⟩, ⟨by (with_reducible repeat (first | apply Kd.R_alloc | apply Kd.R_drewN | apply Kd.R_drew)); exact HO132.out⟩, ⟨by (with_reducible repeat (first | refine blk_drewN ?_ _ | refine blk_drew ?_ | refine blk_alloc ?_ _)); exact BK124.out⟩, ⟨by (with_reducible repeat (first | refine blk_drewN ?_ _ | refine blk_drew ?_ | refine blk_alloc ?_ _)); exact BK129.out⟩, ⟨by repeat (first | (with_reducible first | exact HB.out | apply below_alloc | apply pw_below_drewN | apply below_drew1 | refine below_set ?_ GE124.out | refine below_set ?_ GE129.out) | exact HB.out)⟩⟩
              case rest =>
                clear HC10
                try clear c1
                try clear p1
                try clear q1
                try clear hx1
                try clear c2
                try clear p2
                try clear c6
                try clear c6b0
                try clear c7
                try clear c7b0
                try clear c8
                try clear c8b0
                try clear c9
                try clear c9b0
                try clear c9b1
                try clear c12
                try clear p12
                try clear q12
                try clear hx12
                try clear c13
                try clear c15
                try clear q18
                try clear c19
                try clear c20
                try clear c21
                try clear c22
                try clear hcz13_0
                try clear hcz13_1
                try clear hcz13_2
                try clear hcz13_3
                try clear hcz13_4
                try clear hcz13_5
                try clear hcz13_6
                try clear hcz14_0
                try clear hcz14_1
                try clear hcz14_2
                try clear hcz14_3
                try clear hcz14_4
                try clear hcz14_5
                try clear hcz17_0
                try clear hcz17_1
                try clear hcz17_2
                try clear hcz17_3
                try clear hcz17_4
                try clear hcz17_5
                try clear hcz17_6
                try clear hcz23_0
                try clear hcz23_1
                try clear hcz23_2
                try clear hcz23_3
                try clear hcz23_4
                try clear hcz23_5
                try clear hfz13_0
                try clear hfz13_1
                try clear hfz13_2
                try clear hfz13_3
                try clear hfz13_4
                try clear hfz13_5
                try clear hfz13_6
                try clear hfz14_0
                try clear hfz14_1
                try clear hfz14_2
                try clear hfz14_3
                try clear hfz14_4
                try clear hfz14_5
                try clear hfz17_0
                try clear hfz17_1
                try clear hfz17_2
                try clear hfz17_3
                try clear hfz17_4
                try clear hfz17_5
                try clear hfz17_6
                try clear hfz23_0
                try clear hfz23_1
                try clear hfz23_2
                try clear hfz23_3
                try clear hfz23_4
                try clear hfz23_5
                try clear hx128_0
                try clear hx128_1
                try clear hx128_2
                try clear hx128_3
                try clear hx128_4
                try clear hx128_5
                try clear hx128_6
                try clear p128
                try clear p2
                try clear q128
                obtain ⟨kq, x5_9, HA, HJ9, HO_5, BK124, BK129, HB⟩ := hcut
                cases kq with
                | zero => exact absurd HA.out (by simp [ask_Encode.j1])
                | succ kj9 =>
                  have H := HA.out
                  clear HA
                  simp only [ask_Encode.j1] at H
                  have HC26 := Aside0.mk H
                  clear H
                  have hnb27 := NB129_124.out
                  have hnc27 := NB124_129.out
                  have hcz28_0 : wc.cell? ⟨gb129, 0, none⟩ = some (.string ((rd_T47 t125 x11_1).f0)) := (blk_cell BK129.out 0).trans rfl
                  have hcz28_1 : wc.cell? ⟨gb129, 1, none⟩ = some (.int .i64 ((rd_T47 t125 x11_1).f1)) := (blk_cell BK129.out 1).trans rfl
                  have hcz28_2 : wc.cell? ⟨gb129, 2, none⟩ = some (.bool ((rd_T47 t125 x11_1).f2)) := (blk_cell BK129.out 2).trans rfl
                  have hcz28_3 : wc.cell? ⟨gb129, 3, none⟩ = some (.bool ((rd_T47 t125 x11_1).f3)) := (blk_cell BK129.out 3).trans rfl
                  have hcz28_4 : wc.cell? ⟨gb129, 4, none⟩ = some (.bool ((rd_T47 t125 x11_1).f4)) := (blk_cell BK129.out 4).trans rfl
                  have hcz28_5 : wc.cell? ⟨gb129, 5, none⟩ = some (.bool ((rd_T47 t125 x11_1).f5)) := (blk_cell BK129.out 5).trans rfl
                  have hcz28_6 : wc.cell? ⟨gb129, 6, none⟩ = some (.bool ((rd_T47 t125 x11_1).f6)) := (blk_cell BK129.out 6).trans rfl
                  have hfz28_0 := blk_frozen BK129.out 0
                  have hfz28_1 := blk_frozen BK129.out 1
                  have hfz28_2 := blk_frozen BK129.out 2
                  have hfz28_3 := blk_frozen BK129.out 3
                  have hfz28_4 := blk_frozen BK129.out 4
                  have hfz28_5 := blk_frozen BK129.out 5
                  have hfz28_6 := blk_frozen BK129.out 6
                  go_upto_if 32 with (fail)
                  go_cut [5] (fun v5 wc => ∃ (kq : Nat) (x5_25 : List ByteArray), Aside0 (ask_Encode.j2 kq x5_25 a0_0 a0_1 a0_2 a0_3 a0_4 l0_5 ((rd_T47 t125 x11_1).f0) ((rd_T47 t125 x11_1).f1) ((rd_T47 t125 x11_1).f2) ((rd_T47 t125 x11_1).f3) ((rd_T47 t125 x11_1).f4) ((rd_T47 t125 x11_1).f5) ((rd_T47 t125 x11_1).f6) = some r) ∧ Aside0 (kq ≤ kj9) ∧ Aside0 (Kd.R Kd.string 9 wc w.heap.size (fun _ => True) v5 x5_25) ∧ Aside0 (wc.heap[gb124]? = some (.cells #[.int .i64 a0_0, .int .i64 a0_1, .int .i64 a0_2, .int .i64 a0_3, .string a0_4, (.slice A0_5 l0_5.length c0_5)] 25 (0, 0))) ∧ Aside0 (wc.heap[gb129]? = some (.cells #[.string ((rd_T47 t125 x11_1).f0), .int .i64 ((rd_T47 t125 x11_1).f1), .bool ((rd_T47 t125 x11_1).f2), .bool ((rd_T47 t125 x11_1).f3), .bool ((rd_T47 t125 x11_1).f4), .bool ((rd_T47 t125 x11_1).f5), .bool ((rd_T47 t125 x11_1).f6)] 47 (0, 0))) ∧ Aside0 (Below w.heap.size w wc))
                  case first =>
                    have H := HC26.out
                    clear HC26
                    by_cases c29 : ((rd_T47 t125 x11_1).f3) = true
                    · rw [if_pos c29] at H
                      have c29b0 : ((rd_T47 t125 x11_1).f3) = true := c29
                      clear c29
                      (first | rw [c29b0] | (simp only [i64_w, i32_w]; rw [c29b0]) | skip)
                      replace H := Option.bind_eq_some_iff.mp H
                      obtain ⟨t137, A300, H⟩ := H
                      replace H : (if x5_9.length < 8796093022208 then (ask_Encode.j2 kj9 (x5_9 ++ [t137]) a0_0 a0_1 a0_2 a0_3 a0_4 l0_5 ((rd_T47 t125 x11_1).f0) ((rd_T47 t125 x11_1).f1) ((rd_T47 t125 x11_1).f2) ((rd_T47 t125 x11_1).f3) ((rd_T47 t125 x11_1).f4) ((rd_T47 t125 x11_1).f5) ((rd_T47 t125 x11_1).f6)) else (none)) = some r := H
                      have A30 := Aside0.mk A300
                      clear A300
                      by_cases c31 : x5_9.length < 8796093022208
                      · rw [if_pos c31] at H
                        have LMc31 := Aside0.mk c31
                        clear c31
                        obtain ⟨y138, hy138⟩ : ∃ y_ : List ByteArray, y_ = (x5_9 ++ [t137]) := ⟨_, rfl⟩
                        replace H : (ask_Encode.j2 kj9 y138 a0_0 a0_1 a0_2 a0_3 a0_4 l0_5 ((rd_T47 t125 x11_1).f0) ((rd_T47 t125 x11_1).f1) ((rd_T47 t125 x11_1).f2) ((rd_T47 t125 x11_1).f3) ((rd_T47 t125 x11_1).f4) ((rd_T47 t125 x11_1).f5) ((rd_T47 t125 x11_1).f6)) = some r := by first | (rw [hy138]; with_reducible exact H) | (have H2_ := (Option.bind_some _ _).symm.trans H; rw [hy138]; with_reducible exact H2_) | (have H2_ := (Option.bind_some _ _).symm.trans H; with_reducible exact H2_) | with_reducible exact H | (rw [hy138]; exact H) | exact H
                        have Ny138 := Aside0.mk hy138
                        clear hy138
                        have H' := Aside0.mk H
                        clear H
                        have hnb32 := NB124_129.out
                        have hnc32 := NB129_124.out
                        have hcz33_0 : wc.cell? ⟨gb124, 0, none⟩ = some (.int .i64 a0_0) := (blk_cell BK124.out 0).trans rfl
                        have hcz33_1 : wc.cell? ⟨gb124, 1, none⟩ = some (.int .i64 a0_1) := (blk_cell BK124.out 1).trans rfl
                        have hcz33_2 : wc.cell? ⟨gb124, 2, none⟩ = some (.int .i64 a0_2) := (blk_cell BK124.out 2).trans rfl
                        have hcz33_3 : wc.cell? ⟨gb124, 3, none⟩ = some (.int .i64 a0_3) := (blk_cell BK124.out 3).trans rfl
                        have hcz33_4 : wc.cell? ⟨gb124, 4, none⟩ = some (.string a0_4) := (blk_cell BK124.out 4).trans rfl
                        have hcz33_5 : wc.cell? ⟨gb124, 5, none⟩ = some (.slice A0_5 l0_5.length c0_5) := (blk_cell BK124.out 5).trans rfl
                        have hfz33_0 := blk_frozen BK124.out 0
                        have hfz33_1 := blk_frozen BK124.out 1
                        have hfz33_2 := blk_frozen BK124.out 2
                        have hfz33_3 := blk_frozen BK124.out 3
                        have hfz33_4 := blk_frozen BK124.out 4
                        have hfz33_5 := blk_frozen BK124.out 5
                        go_wp2_with (first | ((with_reducible refine gate_callee (f := 20) rfl ?_); refine goesL_ (some 36) rfl rfl Tryd.func20 (by kernel_rfl) rfl #[.int .i64 a0_2] rfl (by (try simp only [List.map_toArray, List.map_cons, List.map_nil]); first | done | rfl | (simp only [List.length_drop, List.length_take]; rfl)) ?_; (with_reducible refine (strconv_Itoa.calls a0_2 t137 _ ?side1 A30.out).mono ?_); (case side1 => exact HE_.out.below (by repeat (first | (with_reducible first | exact HB.out | apply below_alloc | apply pw_below_drewN | apply below_drew1 | refine below_set ?_ GE124.out | refine below_set ?_ GE129.out) | exact HB.out))); rintro e w34 ⟨rfl, hb⟩; refine ⟨_, rfl, ?_⟩; have n0_ := Aside0.mk (Kd.R_below (by (with_reducible repeat (first | apply Kd.R_alloc | apply Kd.R_drewN | apply Kd.R_drew)); exact HO_5.out) hb); have n1_ := Aside0.mk (blk_below (g := gb124) (o := .cells #[.int .i64 a0_0, .int .i64 a0_1, .int .i64 a0_2, .int .i64 a0_3, .string a0_4, .slice A0_5 l0_5.length c0_5] 25 (0, 0)) (by (with_reducible repeat (first | refine blk_drewN ?_ _ | refine blk_drew ?_ | refine blk_alloc ?_ _)); exact BK124.out) hb); have n2_ := Aside0.mk (blk_below (g := gb129) (o := .cells #[.string ((rd_T47 t125 x11_1).f0), .int .i64 ((rd_T47 t125 x11_1).f1), .bool ((rd_T47 t125 x11_1).f2), .bool ((rd_T47 t125 x11_1).f3), .bool ((rd_T47 t125 x11_1).f4), .bool ((rd_T47 t125 x11_1).f5), .bool ((rd_T47 t125 x11_1).f6)] 47 (0, 0)) (by (with_reducible repeat (first | refine blk_drewN ?_ _ | refine blk_drew ?_ | refine blk_alloc ?_ _)); exact BK129.out) hb); have n3_ := Aside0.mk (below_step (by repeat (first | (with_reducible first | exact HB.out | apply below_alloc | apply pw_below_drewN | apply below_drew1 | refine below_set ?_ GE124.out | refine below_set ?_ GE129.out) | exact HB.out)) hb); clear HO_5; clear BK124; clear BK129; clear HB; have HO_5 := n0_; have BK124 := n1_; have BK129 := n2_; have HB := n3_; clear n0_ n1_ n2_ n3_; (try clear hb); (try clear hb2); (try clear hk); (try clear hi)) | ((with_reducible refine gate_builtin (b := .append) (xs := #[.tmp 33, .tmp 37]) rfl ?_); (try (refine gate_guard (by rfl) ?_; dsimp only)); at_builtin; refine Kd.R_append Kd.string (w0 := w) w.heap.size rfl (.tmp 33) (.tmp 37) 48 9 (.string ⟨#[]⟩) 16 rfl Tryd.underlying48 info9 rfl (by decide) (by omega) u5 x5_9 t137 [.string t137] (fun _ => True) (fun _ => False) rfl rfl ?aP (fun _ hk => hk.elim) ?aF ?aO ?aB ?aS ?aL ?_; (case aP => exact rfl); (case aB => exact (by repeat (first | (with_reducible first | exact HB.out | apply below_alloc | apply pw_below_drewN | apply below_drew1 | refine below_set ?_ GE124.out | refine below_set ?_ GE129.out) | exact HB.out))); (case aF => exact (fun _ _ => trivial)); (case aO => exact (by (with_reducible repeat (first | apply Kd.R_alloc | apply Kd.R_drewN | apply Kd.R_drew)); exact HO_5.out)); (case aS => exact (below_size (by repeat (first | (with_reducible first | exact HB.out | apply below_alloc | apply pw_below_drewN | apply below_drew1 | refine below_set ?_ GE124.out | refine below_set ?_ GE129.out) | exact HB.out)))); (case aL => have := LMc31.out; omega); intro v139 w35 ho hb hg hat; rw [← Ny138.out] at ho; have n0_ := Aside0.mk (blk_grown (g := gb124) (o := .cells #[.int .i64 a0_0, .int .i64 a0_1, .int .i64 a0_2, .int .i64 a0_3, .string a0_4, .slice A0_5 l0_5.length c0_5] 25 (0, 0)) (by (with_reducible repeat (first | refine blk_drewN ?_ _ | refine blk_drew ?_ | refine blk_alloc ?_ _)); exact BK124.out) hg (Kd.R_ne HO_5.out BK124.out (by decide))); have n1_ := Aside0.mk (blk_grown (g := gb129) (o := .cells #[.string ((rd_T47 t125 x11_1).f0), .int .i64 ((rd_T47 t125 x11_1).f1), .bool ((rd_T47 t125 x11_1).f2), .bool ((rd_T47 t125 x11_1).f3), .bool ((rd_T47 t125 x11_1).f4), .bool ((rd_T47 t125 x11_1).f5), .bool ((rd_T47 t125 x11_1).f6)] 47 (0, 0)) (by (with_reducible repeat (first | refine blk_drewN ?_ _ | refine blk_drew ?_ | refine blk_alloc ?_ _)); exact BK129.out) hg (Kd.R_ne HO_5.out BK129.out (by decide))); have n2_ := Aside0.mk (hb); have n3_ := Aside0.mk (ho); clear BK124; clear BK129; clear HB; clear HO_5; have BK124 := n0_; have BK129 := n1_; have HB := n2_; have HO140 := n3_; clear n0_ n1_ n2_ n3_; clear ho hb hg hat))
                        go_meet
                        case rel => exact ⟨_, (y138), H', ⟨by have := HK1.out; have := HJ9.out; first | omega | exact Nat.le_refl _⟩, ⟨by (with_reducible repeat (first | apply Kd.R_alloc | apply Kd.R_drewN | apply Kd.R_drew)); exact HO140.out⟩, ⟨by (with_reducible repeat (first | refine blk_drewN ?_ _ | refine blk_drew ?_ | refine blk_alloc ?_ _)); exact BK124.out⟩, ⟨by (with_reducible repeat (first | refine blk_drewN ?_ _ | refine blk_drew ?_ | refine blk_alloc ?_ _)); exact BK129.out⟩, ⟨by repeat (first | (with_reducible first | exact HB.out | apply below_alloc | apply pw_below_drewN | apply below_drew1 | refine below_set ?_ GE124.out | refine below_set ?_ GE129.out) | exact HB.out)⟩⟩
                      · rw [if_neg c31] at H
                        exact absurd H (by simp)
                    · rw [if_neg c29] at H
                      have c29b0 : ((rd_T47 t125 x11_1).f3) = false := by simpa using c29
                      clear c29
                      (first | rw [c29b0] | (simp only [i64_w, i32_w]; rw [c29b0]) | skip)
                      have H' := Aside0.mk H
                      clear H
                      go_wp2
                      go_meet
                      case rel => exact ⟨_, (x5_9), H', ⟨by have := HK1.out; have := HJ9.out; first | omega | exact Nat.le_refl _⟩, ⟨by (with_reducible repeat (first | apply Kd.R_alloc | apply Kd.R_drewN | apply Kd.R_drew)); exact HO_5.out⟩, ⟨by (with_reducible repeat (first | refine blk_drewN ?_ _ | refine blk_drew ?_ | refine blk_alloc ?_ _)); exact BK124.out⟩, ⟨by (with_reducible repeat (first | refine blk_drewN ?_ _ | refine blk_drew ?_ | refine blk_alloc ?_ _)); exact BK129.out⟩, ⟨by repeat (first | (with_reducible first | exact HB.out | apply below_alloc | apply pw_below_drewN | apply below_drew1 | refine below_set ?_ GE124.out | refine below_set ?_ GE129.out) | exact HB.out)⟩⟩
                  case rest =>
                    clear HC26
                    try clear c1
                    try clear p1
                    try clear q1
                    try clear hx1
                    try clear c2
                    try clear p2
                    try clear c3
                    try clear c6
                    try clear c6b0
                    try clear c7
                    try clear c7b0
                    try clear c8
                    try clear c8b0
                    try clear c9
                    try clear c9b0
                    try clear c9b1
                    try clear c12
                    try clear p12
                    try clear q12
                    try clear hx12
                    try clear c13
                    try clear c15
                    try clear q18
                    try clear c19
                    try clear c20
                    try clear c21
                    try clear c22
                    try clear c27
                    try clear c29
                    try clear c29b0
                    try clear c31
                    try clear c32
                    try clear hcz13_0
                    try clear hcz13_1
                    try clear hcz13_2
                    try clear hcz13_3
                    try clear hcz13_4
                    try clear hcz13_5
                    try clear hcz13_6
                    try clear hcz14_0
                    try clear hcz14_1
                    try clear hcz14_2
                    try clear hcz14_3
                    try clear hcz14_4
                    try clear hcz14_5
                    try clear hcz17_0
                    try clear hcz17_1
                    try clear hcz17_2
                    try clear hcz17_3
                    try clear hcz17_4
                    try clear hcz17_5
                    try clear hcz17_6
                    try clear hcz23_0
                    try clear hcz23_1
                    try clear hcz23_2
                    try clear hcz23_3
                    try clear hcz23_4
                    try clear hcz23_5
                    try clear hcz28_0
                    try clear hcz28_1
                    try clear hcz28_2
                    try clear hcz28_3
                    try clear hcz28_4
                    try clear hcz28_5
                    try clear hcz28_6
                    try clear hcz33_0
                    try clear hcz33_1
                    try clear hcz33_2
                    try clear hcz33_3
                    try clear hcz33_4
                    try clear hcz33_5
                    try clear hfz13_0
                    try clear hfz13_1
                    try clear hfz13_2
                    try clear hfz13_3
                    try clear hfz13_4
                    try clear hfz13_5
                    try clear hfz13_6
                    try clear hfz14_0
                    try clear hfz14_1
                    try clear hfz14_2
                    try clear hfz14_3
                    try clear hfz14_4
                    try clear hfz14_5
                    try clear hfz17_0
                    try clear hfz17_1
                    try clear hfz17_2
                    try clear hfz17_3
                    try clear hfz17_4
                    try clear hfz17_5
                    try clear hfz17_6
                    try clear hfz23_0
                    try clear hfz23_1
                    try clear hfz23_2
                    try clear hfz23_3
                    try clear hfz23_4
                    try clear hfz23_5
                    try clear hfz28_0
                    try clear hfz28_1
                    try clear hfz28_2
                    try clear hfz28_3
                    try clear hfz28_4
                    try clear hfz28_5
                    try clear hfz28_6
                    try clear hfz33_0
                    try clear hfz33_1
                    try clear hfz33_2
                    try clear hfz33_3
                    try clear hfz33_4
                    try clear hfz33_5
                    try clear hx128_0
                    try clear hx128_1
                    try clear hx128_2
                    try clear hx128_3
                    try clear hx128_4
                    try clear hx128_5
                    try clear hx128_6
                    try clear p1
                    try clear p12
                    try clear p128
                    try clear p2
                    try clear q1
                    try clear q12
                    try clear q128
                    try clear q18
                    obtain ⟨kq, x5_25, HA, HJ25, HO_5, BK124, BK129, HB⟩ := hcut
                    cases kq with
                    | zero => exact absurd HA.out (by simp [ask_Encode.j2])
                    | succ kj25 =>
                      have H := HA.out
                      clear HA
                      simp only [ask_Encode.j2] at H
                      have HC36 := Aside0.mk H
                      clear H
                      have hnb37 := NB129_124.out
                      have hnc37 := NB124_129.out
                      have hcz38_0 : wc.cell? ⟨gb129, 0, none⟩ = some (.string ((rd_T47 t125 x11_1).f0)) := (blk_cell BK129.out 0).trans rfl
                      have hcz38_1 : wc.cell? ⟨gb129, 1, none⟩ = some (.int .i64 ((rd_T47 t125 x11_1).f1)) := (blk_cell BK129.out 1).trans rfl
                      have hcz38_2 : wc.cell? ⟨gb129, 2, none⟩ = some (.bool ((rd_T47 t125 x11_1).f2)) := (blk_cell BK129.out 2).trans rfl
                      have hcz38_3 : wc.cell? ⟨gb129, 3, none⟩ = some (.bool ((rd_T47 t125 x11_1).f3)) := (blk_cell BK129.out 3).trans rfl
                      have hcz38_4 : wc.cell? ⟨gb129, 4, none⟩ = some (.bool ((rd_T47 t125 x11_1).f4)) := (blk_cell BK129.out 4).trans rfl
                      have hcz38_5 : wc.cell? ⟨gb129, 5, none⟩ = some (.bool ((rd_T47 t125 x11_1).f5)) := (blk_cell BK129.out 5).trans rfl
                      have hcz38_6 : wc.cell? ⟨gb129, 6, none⟩ = some (.bool ((rd_T47 t125 x11_1).f6)) := (blk_cell BK129.out 6).trans rfl
                      have hfz38_0 := blk_frozen BK129.out 0
                      have hfz38_1 := blk_frozen BK129.out 1
                      have hfz38_2 := blk_frozen BK129.out 2
                      have hfz38_3 := blk_frozen BK129.out 3
                      have hfz38_4 := blk_frozen BK129.out 4
                      have hfz38_5 := blk_frozen BK129.out 5
                      have hfz38_6 := blk_frozen BK129.out 6
                      go_upto_if 40 with (fail)
                      go_cut [5] (fun v5 wc => ∃ (kq : Nat) (x5_35 : List ByteArray), Aside0 (ask_Encode.j3 kq x5_35 a0_0 a0_1 a0_2 a0_3 a0_4 l0_5 ((rd_T47 t125 x11_1).f0) ((rd_T47 t125 x11_1).f1) ((rd_T47 t125 x11_1).f2) ((rd_T47 t125 x11_1).f3) ((rd_T47 t125 x11_1).f4) ((rd_T47 t125 x11_1).f5) ((rd_T47 t125 x11_1).f6) = some r) ∧ Aside0 (kq ≤ kj25) ∧ Aside0 (Kd.R Kd.string 9 wc w.heap.size (fun _ => True) v5 x5_35) ∧ Aside0 (wc.heap[gb124]? = some (.cells #[.int .i64 a0_0, .int .i64 a0_1, .int .i64 a0_2, .int .i64 a0_3, .string a0_4, (.slice A0_5 l0_5.length c0_5)] 25 (0, 0))) ∧ Aside0 (wc.heap[gb129]? = some (.cells #[.string ((rd_T47 t125 x11_1).f0), .int .i64 ((rd_T47 t125 x11_1).f1), .bool ((rd_T47 t125 x11_1).f2), .bool ((rd_T47 t125 x11_1).f3), .bool ((rd_T47 t125 x11_1).f4), .bool ((rd_T47 t125 x11_1).f5), .bool ((rd_T47 t125 x11_1).f6)] 47 (0, 0))) ∧ Aside0 (Below w.heap.size w wc))
                      case first =>
                        have H := HC36.out
                        clear HC36
                        by_cases c39 : ((rd_T47 t125 x11_1).f4) = true
                        · rw [if_pos c39] at H
                          have c39b0 : ((rd_T47 t125 x11_1).f4) = true := c39
                          clear c39
                          (first | rw [c39b0] | (simp only [i64_w, i32_w]; rw [c39b0]) | skip)
                          replace H := Option.bind_eq_some_iff.mp H
                          obtain ⟨t141, A400, H⟩ := H
                          replace H : (if x5_25.length < 8796093022208 then (ask_Encode.j3 kj25 (x5_25 ++ [t141]) a0_0 a0_1 a0_2 a0_3 a0_4 l0_5 ((rd_T47 t125 x11_1).f0) ((rd_T47 t125 x11_1).f1) ((rd_T47 t125 x11_1).f2) ((rd_T47 t125 x11_1).f3) ((rd_T47 t125 x11_1).f4) ((rd_T47 t125 x11_1).f5) ((rd_T47 t125 x11_1).f6)) else (none)) = some r := H
                          have A40 := Aside0.mk A400
                          clear A400
                          by_cases c41 : x5_25.length < 8796093022208
                          · rw [if_pos c41] at H
                            have LMc41 := Aside0.mk c41
                            clear c41
                            obtain ⟨y142, hy142⟩ : ∃ y_ : List ByteArray, y_ = (x5_25 ++ [t141]) := ⟨_, rfl⟩
                            replace H : (ask_Encode.j3 kj25 y142 a0_0 a0_1 a0_2 a0_3 a0_4 l0_5 ((rd_T47 t125 x11_1).f0) ((rd_T47 t125 x11_1).f1) ((rd_T47 t125 x11_1).f2) ((rd_T47 t125 x11_1).f3) ((rd_T47 t125 x11_1).f4) ((rd_T47 t125 x11_1).f5) ((rd_T47 t125 x11_1).f6)) = some r := by first | (rw [hy142]; with_reducible exact H) | (have H2_ := (Option.bind_some _ _).symm.trans H; rw [hy142]; with_reducible exact H2_) | (have H2_ := (Option.bind_some _ _).symm.trans H; with_reducible exact H2_) | with_reducible exact H | (rw [hy142]; exact H) | exact H
                            have Ny142 := Aside0.mk hy142
                            clear hy142
                            have H' := Aside0.mk H
                            clear H
                            have hnb42 := NB124_129.out
                            have hnc42 := NB129_124.out
                            have hcz43_0 : wc.cell? ⟨gb124, 0, none⟩ = some (.int .i64 a0_0) := (blk_cell BK124.out 0).trans rfl
                            have hcz43_1 : wc.cell? ⟨gb124, 1, none⟩ = some (.int .i64 a0_1) := (blk_cell BK124.out 1).trans rfl
                            have hcz43_2 : wc.cell? ⟨gb124, 2, none⟩ = some (.int .i64 a0_2) := (blk_cell BK124.out 2).trans rfl
                            have hcz43_3 : wc.cell? ⟨gb124, 3, none⟩ = some (.int .i64 a0_3) := (blk_cell BK124.out 3).trans rfl
                            have hcz43_4 : wc.cell? ⟨gb124, 4, none⟩ = some (.string a0_4) := (blk_cell BK124.out 4).trans rfl
                            have hcz43_5 : wc.cell? ⟨gb124, 5, none⟩ = some (.slice A0_5 l0_5.length c0_5) := (blk_cell BK124.out 5).trans rfl
                            have hfz43_0 := blk_frozen BK124.out 0
                            have hfz43_1 := blk_frozen BK124.out 1
                            have hfz43_2 := blk_frozen BK124.out 2
                            have hfz43_3 := blk_frozen BK124.out 3
                            have hfz43_4 := blk_frozen BK124.out 4
                            have hfz43_5 := blk_frozen BK124.out 5
                            go_wp2_with (first | ((with_reducible refine gate_callee (f := 20) rfl ?_); refine goesL_ (some 44) rfl rfl Tryd.func20 (by kernel_rfl) rfl #[.int .i64 a0_3] rfl (by (try simp only [List.map_toArray, List.map_cons, List.map_nil]); first | done | rfl | (simp only [List.length_drop, List.length_take]; rfl)) ?_; (with_reducible refine (strconv_Itoa.calls a0_3 t141 _ ?side1 A40.out).mono ?_); (case side1 => exact HE_.out.below (by repeat (first | (with_reducible first | exact HB.out | apply below_alloc | apply pw_below_drewN | apply below_drew1 | refine below_set ?_ GE124.out | refine below_set ?_ GE129.out) | exact HB.out))); rintro e w44 ⟨rfl, hb⟩; refine ⟨_, rfl, ?_⟩; have n0_ := Aside0.mk (Kd.R_below (by (with_reducible repeat (first | apply Kd.R_alloc | apply Kd.R_drewN | apply Kd.R_drew)); exact HO_5.out) hb); have n1_ := Aside0.mk (blk_below (g := gb124) (o := .cells #[.int .i64 a0_0, .int .i64 a0_1, .int .i64 a0_2, .int .i64 a0_3, .string a0_4, .slice A0_5 l0_5.length c0_5] 25 (0, 0)) (by (with_reducible repeat (first | refine blk_drewN ?_ _ | refine blk_drew ?_ | refine blk_alloc ?_ _)); exact BK124.out) hb); have n2_ := Aside0.mk (blk_below (g := gb129) (o := .cells #[.string ((rd_T47 t125 x11_1).f0), .int .i64 ((rd_T47 t125 x11_1).f1), .bool ((rd_T47 t125 x11_1).f2), .bool ((rd_T47 t125 x11_1).f3), .bool ((rd_T47 t125 x11_1).f4), .bool ((rd_T47 t125 x11_1).f5), .bool ((rd_T47 t125 x11_1).f6)] 47 (0, 0)) (by (with_reducible repeat (first | refine blk_drewN ?_ _ | refine blk_drew ?_ | refine blk_alloc ?_ _)); exact BK129.out) hb); have n3_ := Aside0.mk (below_step (by repeat (first | (with_reducible first | exact HB.out | apply below_alloc | apply pw_below_drewN | apply below_drew1 | refine below_set ?_ GE124.out | refine below_set ?_ GE129.out) | exact HB.out)) hb); clear HO_5; clear BK124; clear BK129; clear HB; have HO_5 := n0_; have BK124 := n1_; have BK129 := n2_; have HB := n3_; clear n0_ n1_ n2_ n3_; (try clear hb); (try clear hb2); (try clear hk); (try clear hi)) | ((with_reducible refine gate_builtin (b := .append) (xs := #[.tmp 41, .tmp 45]) rfl ?_); (try (refine gate_guard (by rfl) ?_; dsimp only)); at_builtin; refine Kd.R_append Kd.string (w0 := w) w.heap.size rfl (.tmp 41) (.tmp 45) 48 9 (.string ⟨#[]⟩) 16 rfl Tryd.underlying48 info9 rfl (by decide) (by omega) u5 x5_25 t141 [.string t141] (fun _ => True) (fun _ => False) rfl rfl ?aP (fun _ hk => hk.elim) ?aF ?aO ?aB ?aS ?aL ?_; (case aP => exact rfl); (case aB => exact (by repeat (first | (with_reducible first | exact HB.out | apply below_alloc | apply pw_below_drewN | apply below_drew1 | refine below_set ?_ GE124.out | refine below_set ?_ GE129.out) | exact HB.out))); (case aF => exact (fun _ _ => trivial)); (case aO => exact (by (with_reducible repeat (first | apply Kd.R_alloc | apply Kd.R_drewN | apply Kd.R_drew)); exact HO_5.out)); (case aS => exact (below_size (by repeat (first | (with_reducible first | exact HB.out | apply below_alloc | apply pw_below_drewN | apply below_drew1 | refine below_set ?_ GE124.out | refine below_set ?_ GE129.out) | exact HB.out)))); (case aL => have := LMc41.out; omega); intro v143 w45 ho hb hg hat; rw [← Ny142.out] at ho; have n0_ := Aside0.mk (blk_grown (g := gb124) (o := .cells #[.int .i64 a0_0, .int .i64 a0_1, .int .i64 a0_2, .int .i64 a0_3, .string a0_4, .slice A0_5 l0_5.length c0_5] 25 (0, 0)) (by (with_reducible repeat (first | refine blk_drewN ?_ _ | refine blk_drew ?_ | refine blk_alloc ?_ _)); exact BK124.out) hg (Kd.R_ne HO_5.out BK124.out (by decide))); have n1_ := Aside0.mk (blk_grown (g := gb129) (o := .cells #[.string ((rd_T47 t125 x11_1).f0), .int .i64 ((rd_T47 t125 x11_1).f1), .bool ((rd_T47 t125 x11_1).f2), .bool ((rd_T47 t125 x11_1).f3), .bool ((rd_T47 t125 x11_1).f4), .bool ((rd_T47 t125 x11_1).f5), .bool ((rd_T47 t125 x11_1).f6)] 47 (0, 0)) (by (with_reducible repeat (first | refine blk_drewN ?_ _ | refine blk_drew ?_ | refine blk_alloc ?_ _)); exact BK129.out) hg (Kd.R_ne HO_5.out BK129.out (by decide))); have n2_ := Aside0.mk (hb); have n3_ := Aside0.mk (ho); clear BK124; clear BK129; clear HB; clear HO_5; have BK124 := n0_; have BK129 := n1_; have HB := n2_; have HO144 := n3_; clear n0_ n1_ n2_ n3_; clear ho hb hg hat))
                            go_meet
                            case rel => exact ⟨_, (y142), H', ⟨by have := HK1.out; have := HJ9.out; have := HJ25.out; first | omega | exact Nat.le_refl _⟩, ⟨by (with_reducible repeat (first | apply Kd.R_alloc | apply Kd.R_drewN | apply Kd.R_drew)); exact HO144.out⟩, ⟨by (with_reducible repeat (first | refine blk_drewN ?_ _ | refine blk_drew ?_ | refine blk_alloc ?_ _)); exact BK124.out⟩, ⟨by (with_reducible repeat (first | refine blk_drewN ?_ _ | refine blk_drew ?_ | refine blk_alloc ?_ _)); exact BK129.out⟩, ⟨by repeat (first | (with_reducible first | exact HB.out | apply below_alloc | apply pw_below_drewN | apply below_drew1 | refine below_set ?_ GE124.out | refine below_set ?_ GE129.out) | exact HB.out)⟩⟩
                          · rw [if_neg c41] at H
                            exact absurd H (by simp)
                        · rw [if_neg c39] at H
                          have c39b0 : ((rd_T47 t125 x11_1).f4) = false := by simpa using c39
                          clear c39
                          (first | rw [c39b0] | (simp only [i64_w, i32_w]; rw [c39b0]) | skip)
                          have H' := Aside0.mk H
                          clear H
                          go_wp2
                          go_meet
                          case rel => exact ⟨_, (x5_25), H', ⟨by have := HK1.out; have := HJ9.out; have := HJ25.out; first | omega | exact Nat.le_refl _⟩, ⟨by (with_reducible repeat (first | apply Kd.R_alloc | apply Kd.R_drewN | apply Kd.R_drew)); exact HO_5.out⟩, ⟨by (with_reducible repeat (first | refine blk_drewN ?_ _ | refine blk_drew ?_ | refine blk_alloc ?_ _)); exact BK124.out⟩, ⟨by (with_reducible repeat (first | refine blk_drewN ?_ _ | refine blk_drew ?_ | refine blk_alloc ?_ _)); exact BK129.out⟩, ⟨by repeat (first | (with_reducible first | exact HB.out | apply below_alloc | apply pw_below_drewN | apply below_drew1 | refine below_set ?_ GE124.out | refine below_set ?_ GE129.out) | exact HB.out)⟩⟩
                      case rest =>
                        clear HC36
                        try clear c1
                        try clear p1
                        try clear q1
                        try clear hx1
                        try clear c2
                        try clear p2
                        try clear c3
                        try clear c4
                        try clear c6
                        try clear c6b0
                        try clear c7
                        try clear c7b0
                        try clear c8
                        try clear c8b0
                        try clear c9
                        try clear c9b0
                        try clear c9b1
                        try clear c12
                        try clear p12
                        try clear q12
                        try clear hx12
                        try clear c13
                        try clear c15
                        try clear q18
                        try clear c19
                        try clear c20
                        try clear c21
                        try clear c22
                        try clear c27
                        try clear c29
                        try clear c29b0
                        try clear c31
                        try clear c32
                        try clear c37
                        try clear c39
                        try clear c39b0
                        try clear c41
                        try clear c42
                        try clear hcz13_0
                        try clear hcz13_1
                        try clear hcz13_2
                        try clear hcz13_3
                        try clear hcz13_4
                        try clear hcz13_5
                        try clear hcz13_6
                        try clear hcz14_0
                        try clear hcz14_1
                        try clear hcz14_2
                        try clear hcz14_3
                        try clear hcz14_4
                        try clear hcz14_5
                        try clear hcz17_0
                        try clear hcz17_1
                        try clear hcz17_2
                        try clear hcz17_3
                        try clear hcz17_4
                        try clear hcz17_5
                        try clear hcz17_6
                        try clear hcz23_0
                        try clear hcz23_1
                        try clear hcz23_2
                        try clear hcz23_3
                        try clear hcz23_4
                        try clear hcz23_5
                        try clear hcz28_0
                        try clear hcz28_1
                        try clear hcz28_2
                        try clear hcz28_3
                        try clear hcz28_4
                        try clear hcz28_5
                        try clear hcz28_6
                        try clear hcz33_0
                        try clear hcz33_1
                        try clear hcz33_2
                        try clear hcz33_3
                        try clear hcz33_4
                        try clear hcz33_5
                        try clear hcz38_0
                        try clear hcz38_1
                        try clear hcz38_2
                        try clear hcz38_3
                        try clear hcz38_4
                        try clear hcz38_5
                        try clear hcz38_6
                        try clear hcz43_0
                        try clear hcz43_1
                        try clear hcz43_2
                        try clear hcz43_3
                        try clear hcz43_4
                        try clear hcz43_5
                        try clear hfz13_0
                        try clear hfz13_1
                        try clear hfz13_2
                        try clear hfz13_3
                        try clear hfz13_4
                        try clear hfz13_5
                        try clear hfz13_6
                        try clear hfz14_0
                        try clear hfz14_1
                        try clear hfz14_2
                        try clear hfz14_3
                        try clear hfz14_4
                        try clear hfz14_5
                        try clear hfz17_0
                        try clear hfz17_1
                        try clear hfz17_2
                        try clear hfz17_3
                        try clear hfz17_4
                        try clear hfz17_5
                        try clear hfz17_6
                        try clear hfz23_0
                        try clear hfz23_1
                        try clear hfz23_2
                        try clear hfz23_3
                        try clear hfz23_4
                        try clear hfz23_5
                        try clear hfz28_0
                        try clear hfz28_1
                        try clear hfz28_2
                        try clear hfz28_3
                        try clear hfz28_4
                        try clear hfz28_5
                        try clear hfz28_6
                        try clear hfz33_0
                        try clear hfz33_1
                        try clear hfz33_2
                        try clear hfz33_3
                        try clear hfz33_4
                        try clear hfz33_5
                        try clear hfz38_0
                        try clear hfz38_1
                        try clear hfz38_2
                        try clear hfz38_3
                        try clear hfz38_4
                        try clear hfz38_5
                        try clear hfz38_6
                        try clear hfz43_0
                        try clear hfz43_1
                        try clear hfz43_2
                        try clear hfz43_3
                        try clear hfz43_4
                        try clear hfz43_5
                        try clear hx128_0
                        try clear hx128_1
                        try clear hx128_2
                        try clear hx128_3
                        try clear hx128_4
                        try clear hx128_5
                        try clear hx128_6
                        try clear p1
                        try clear p12
                        try clear p128
                        try clear p2
                        try clear q1
                        try clear q12
                        try clear q128
                        try clear q18
                        obtain ⟨kq, x5_35, HA, HJ35, HO_5, BK124, BK129, HB⟩ := hcut
                        cases kq with
                        | zero => exact absurd HA.out (by simp [ask_Encode.j3])
                        | succ kj35 =>
                          have H := HA.out
                          clear HA
                          simp only [ask_Encode.j3] at H
                          have HC46 := Aside0.mk H
                          clear H
                          go_upto_region 12 with (fail)
                          go_cut [53] (fun v53 wc => ∃ (kq : Nat) (x53_45 : Bool), v53 = .bool x53_45 ∧ Aside0 (ask_Encode.j4 kq x5_35 x53_45 a0_0 a0_1 a0_2 a0_3 a0_4 l0_5 ((rd_T47 t125 x11_1).f0) ((rd_T47 t125 x11_1).f1) ((rd_T47 t125 x11_1).f2) ((rd_T47 t125 x11_1).f3) ((rd_T47 t125 x11_1).f4) ((rd_T47 t125 x11_1).f5) ((rd_T47 t125 x11_1).f6) = some r) ∧ Aside0 (kq ≤ kj35) ∧ Aside0 (Kd.R Kd.string 9 wc w.heap.size (fun _ => True) u5 x5_35) ∧ Aside0 (wc.heap[gb124]? = some (.cells #[.int .i64 a0_0, .int .i64 a0_1, .int .i64 a0_2, .int .i64 a0_3, .string a0_4, (.slice A0_5 l0_5.length c0_5)] 25 (0, 0))) ∧ Aside0 (wc.heap[gb129]? = some (.cells #[.string ((rd_T47 t125 x11_1).f0), .int .i64 ((rd_T47 t125 x11_1).f1), .bool ((rd_T47 t125 x11_1).f2), .bool ((rd_T47 t125 x11_1).f3), .bool ((rd_T47 t125 x11_1).f4), .bool ((rd_T47 t125 x11_1).f5), .bool ((rd_T47 t125 x11_1).f6)] 47 (0, 0))) ∧ Aside0 (Below w.heap.size w wc))
                          case first =>
                            have H := HC46.out
                            clear HC46
                            by_cases c47 : ((rd_T47 t125 x11_1).f6) = true
                            · rw [if_pos c47] at H
                              have c47b0 : ((rd_T47 t125 x11_1).f6) = true := c47
                              clear c47
                              (first | rw [c47b0] | (simp only [i64_w, i32_w]; rw [c47b0]) | skip)
                              have H' := Aside0.mk H
                              clear H
                              have hnb48 := NB129_124.out
                              have hnc48 := NB124_129.out
                              have hcz49_0 : wc.cell? ⟨gb129, 0, none⟩ = some (.string ((rd_T47 t125 x11_1).f0)) := (blk_cell BK129.out 0).trans rfl
                              have hcz49_1 : wc.cell? ⟨gb129, 1, none⟩ = some (.int .i64 ((rd_T47 t125 x11_1).f1)) := (blk_cell BK129.out 1).trans rfl
                              have hcz49_2 : wc.cell? ⟨gb129, 2, none⟩ = some (.bool ((rd_T47 t125 x11_1).f2)) := (blk_cell BK129.out 2).trans rfl
                              have hcz49_3 : wc.cell? ⟨gb129, 3, none⟩ = some (.bool ((rd_T47 t125 x11_1).f3)) := (blk_cell BK129.out 3).trans rfl
                              have hcz49_4 : wc.cell? ⟨gb129, 4, none⟩ = some (.bool ((rd_T47 t125 x11_1).f4)) := (blk_cell BK129.out 4).trans rfl
                              have hcz49_5 : wc.cell? ⟨gb129, 5, none⟩ = some (.bool ((rd_T47 t125 x11_1).f5)) := (blk_cell BK129.out 5).trans rfl
                              have hcz49_6 : wc.cell? ⟨gb129, 6, none⟩ = some (.bool ((rd_T47 t125 x11_1).f6)) := (blk_cell BK129.out 6).trans rfl
                              have hfz49_0 := blk_frozen BK129.out 0
                              have hfz49_1 := blk_frozen BK129.out 1
                              have hfz49_2 := blk_frozen BK129.out 2
                              have hfz49_3 := blk_frozen BK129.out 3
                              have hfz49_4 := blk_frozen BK129.out 4
                              have hfz49_5 := blk_frozen BK129.out 5
                              have hfz49_6 := blk_frozen BK129.out 6
                              have hcz50_0 : wc.cell? ⟨gb124, 0, none⟩ = some (.int .i64 a0_0) := (blk_cell BK124.out 0).trans rfl
                              have hcz50_1 : wc.cell? ⟨gb124, 1, none⟩ = some (.int .i64 a0_1) := (blk_cell BK124.out 1).trans rfl
                              have hcz50_2 : wc.cell? ⟨gb124, 2, none⟩ = some (.int .i64 a0_2) := (blk_cell BK124.out 2).trans rfl
                              have hcz50_3 : wc.cell? ⟨gb124, 3, none⟩ = some (.int .i64 a0_3) := (blk_cell BK124.out 3).trans rfl
                              have hcz50_4 : wc.cell? ⟨gb124, 4, none⟩ = some (.string a0_4) := (blk_cell BK124.out 4).trans rfl
                              have hcz50_5 : wc.cell? ⟨gb124, 5, none⟩ = some (.slice A0_5 l0_5.length c0_5) := (blk_cell BK124.out 5).trans rfl
                              have hfz50_0 := blk_frozen BK124.out 0
                              have hfz50_1 := blk_frozen BK124.out 1
                              have hfz50_2 := blk_frozen BK124.out 2
                              have hfz50_3 := blk_frozen BK124.out 3
                              have hfz50_4 := blk_frozen BK124.out 4
                              have hfz50_5 := blk_frozen BK124.out 5
                              go_wp2
                              go_meet
                              case rel => exact ⟨_, ((a0_4.toList != ([] : List UInt8))), (by first | rfl | (simp; done) | (simp; exact (fun l_ : List UInt8 => (by cases l_ <;> rfl : l_.isEmpty = !(l_ != []))) _) | (simp [*]; done)), H', ⟨by have := HK1.out; have := HJ9.out; have := HJ25.out; have := HJ35.out; first | omega | exact Nat.le_refl _⟩, ⟨by (with_reducible repeat (first | apply Kd.R_alloc | apply Kd.R_drewN | apply Kd.R_drew)); exact HO_5.out⟩, ⟨by (with_reducible repeat (first | refine blk_drewN ?_ _ | refine blk_drew ?_ | refine blk_alloc ?_ _)); exact BK124.out⟩, ⟨by (with_reducible repeat (first | refine blk_drewN ?_ _ | refine blk_drew ?_ | refine blk_alloc ?_ _)); exact BK129.out⟩, ⟨by repeat (first | (with_reducible first | exact HB.out | apply below_alloc | apply pw_below_drewN | apply below_drew1 | refine below_set ?_ GE124.out | refine below_set ?_ GE129.out) | exact HB.out)⟩⟩
                            · rw [if_neg c47] at H
                              have c47b0 : ((rd_T47 t125 x11_1).f6) = false := by simpa using c47
                              clear c47
                              (first | rw [c47b0] | (simp only [i64_w, i32_w]; rw [c47b0]) | skip)
                              have H' := Aside0.mk H
                              clear H
                              have hnb51 := NB129_124.out
                              have hnc51 := NB124_129.out
                              have hcz52_0 : wc.cell? ⟨gb129, 0, none⟩ = some (.string ((rd_T47 t125 x11_1).f0)) := (blk_cell BK129.out 0).trans rfl
                              have hcz52_1 : wc.cell? ⟨gb129, 1, none⟩ = some (.int .i64 ((rd_T47 t125 x11_1).f1)) := (blk_cell BK129.out 1).trans rfl
                              have hcz52_2 : wc.cell? ⟨gb129, 2, none⟩ = some (.bool ((rd_T47 t125 x11_1).f2)) := (blk_cell BK129.out 2).trans rfl
                              have hcz52_3 : wc.cell? ⟨gb129, 3, none⟩ = some (.bool ((rd_T47 t125 x11_1).f3)) := (blk_cell BK129.out 3).trans rfl
                              have hcz52_4 : wc.cell? ⟨gb129, 4, none⟩ = some (.bool ((rd_T47 t125 x11_1).f4)) := (blk_cell BK129.out 4).trans rfl
                              have hcz52_5 : wc.cell? ⟨gb129, 5, none⟩ = some (.bool ((rd_T47 t125 x11_1).f5)) := (blk_cell BK129.out 5).trans rfl
                              have hcz52_6 : wc.cell? ⟨gb129, 6, none⟩ = some (.bool ((rd_T47 t125 x11_1).f6)) := (blk_cell BK129.out 6).trans rfl
                              have hfz52_0 := blk_frozen BK129.out 0
                              have hfz52_1 := blk_frozen BK129.out 1
                              have hfz52_2 := blk_frozen BK129.out 2
                              have hfz52_3 := blk_frozen BK129.out 3
                              have hfz52_4 := blk_frozen BK129.out 4
                              have hfz52_5 := blk_frozen BK129.out 5
                              have hfz52_6 := blk_frozen BK129.out 6
                              go_wp2
                              go_meet
                              case rel => exact ⟨_, (false), (by first | rfl | (simp; done) | (simp; exact (fun l_ : List UInt8 => (by cases l_ <;> rfl : l_.isEmpty = !(l_ != []))) _) | (simp [*]; done)), H', ⟨by have := HK1.out; have := HJ9.out; have := HJ25.out; have := HJ35.out; first | omega | exact Nat.le_refl _⟩, ⟨by (with_reducible repeat (first | apply Kd.R_alloc | apply Kd.R_drewN | apply Kd.R_drew)); exact HO_5.out⟩, ⟨by (with_reducible repeat (first | refine blk_drewN ?_ _ | refine blk_drew ?_ | refine blk_alloc ?_ _)); exact BK124.out⟩, ⟨by (with_reducible repeat (first | refine blk_drewN ?_ _ | refine blk_drew ?_ | refine blk_alloc ?_ _)); exact BK129.out⟩, ⟨by repeat (first | (with_reducible first | exact HB.out | apply below_alloc | apply pw_below_drewN | apply below_drew1 | refine below_set ?_ GE124.out | refine below_set ?_ GE129.out) | exact HB.out)⟩⟩
                          case rest =>
                            clear HC46
                            try clear c1
                            try clear p1
                            try clear q1
                            try clear hx1
                            try clear c2
                            try clear p2
                            try clear c3
                            try clear c4
                            try clear c5
                            try clear c6
                            try clear c6b0
                            try clear c7
                            try clear c7b0
                            try clear c8
                            try clear c8b0
                            try clear c9
                            try clear c9b0
                            try clear c9b1
                            try clear c12
                            try clear p12
                            try clear q12
                            try clear hx12
                            try clear c13
                            try clear c15
                            try clear q18
                            try clear c19
                            try clear c20
                            try clear c21
                            try clear c22
                            try clear c27
                            try clear c29
                            try clear c29b0
                            try clear c31
                            try clear c32
                            try clear c37
                            try clear c39
                            try clear c39b0
                            try clear c41
                            try clear c42
                            try clear c47
                            try clear c47b0
                            try clear c48
                            try clear c51
                            try clear hcz13_0
                            try clear hcz13_1
                            try clear hcz13_2
                            try clear hcz13_3
                            try clear hcz13_4
                            try clear hcz13_5
                            try clear hcz13_6
                            try clear hcz14_0
                            try clear hcz14_1
                            try clear hcz14_2
                            try clear hcz14_3
                            try clear hcz14_4
                            try clear hcz14_5
                            try clear hcz17_0
                            try clear hcz17_1
                            try clear hcz17_2
                            try clear hcz17_3
                            try clear hcz17_4
                            try clear hcz17_5
                            try clear hcz17_6
                            try clear hcz23_0
                            try clear hcz23_1
                            try clear hcz23_2
                            try clear hcz23_3
                            try clear hcz23_4
                            try clear hcz23_5
                            try clear hcz28_0
                            try clear hcz28_1
                            try clear hcz28_2
                            try clear hcz28_3
                            try clear hcz28_4
                            try clear hcz28_5
                            try clear hcz28_6
                            try clear hcz33_0
                            try clear hcz33_1
                            try clear hcz33_2
                            try clear hcz33_3
                            try clear hcz33_4
                            try clear hcz33_5
                            try clear hcz38_0
                            try clear hcz38_1
                            try clear hcz38_2
                            try clear hcz38_3
                            try clear hcz38_4
                            try clear hcz38_5
                            try clear hcz38_6
                            try clear hcz43_0
                            try clear hcz43_1
                            try clear hcz43_2
                            try clear hcz43_3
                            try clear hcz43_4
                            try clear hcz43_5
                            try clear hcz49_0
                            try clear hcz49_1
                            try clear hcz49_2
                            try clear hcz49_3
                            try clear hcz49_4
                            try clear hcz49_5
                            try clear hcz49_6
                            try clear hcz50_0
                            try clear hcz50_1
                            try clear hcz50_2
                            try clear hcz50_3
                            try clear hcz50_4
                            try clear hcz50_5
                            try clear hcz52_0
                            try clear hcz52_1
                            try clear hcz52_2
                            try clear hcz52_3
                            try clear hcz52_4
                            try clear hcz52_5
                            try clear hcz52_6
                            try clear hfz13_0
                            try clear hfz13_1
                            try clear hfz13_2
                            try clear hfz13_3
                            try clear hfz13_4
                            try clear hfz13_5
                            try clear hfz13_6
                            try clear hfz14_0
                            try clear hfz14_1
                            try clear hfz14_2
                            try clear hfz14_3
                            try clear hfz14_4
                            try clear hfz14_5
                            try clear hfz17_0
                            try clear hfz17_1
                            try clear hfz17_2
                            try clear hfz17_3
                            try clear hfz17_4
                            try clear hfz17_5
                            try clear hfz17_6
                            try clear hfz23_0
                            try clear hfz23_1
                            try clear hfz23_2
                            try clear hfz23_3
                            try clear hfz23_4
                            try clear hfz23_5
                            try clear hfz28_0
                            try clear hfz28_1
                            try clear hfz28_2
                            try clear hfz28_3
                            try clear hfz28_4
                            try clear hfz28_5
                            try clear hfz28_6
                            try clear hfz33_0
                            try clear hfz33_1
                            try clear hfz33_2
                            try clear hfz33_3
                            try clear hfz33_4
                            try clear hfz33_5
                            try clear hfz38_0
                            try clear hfz38_1
                            try clear hfz38_2
                            try clear hfz38_3
                            try clear hfz38_4
                            try clear hfz38_5
                            try clear hfz38_6
                            try clear hfz43_0
                            try clear hfz43_1
                            try clear hfz43_2
                            try clear hfz43_3
                            try clear hfz43_4
                            try clear hfz43_5
                            try clear hfz49_0
                            try clear hfz49_1
                            try clear hfz49_2
                            try clear hfz49_3
                            try clear hfz49_4
                            try clear hfz49_5
                            try clear hfz49_6
                            try clear hfz50_0
                            try clear hfz50_1
                            try clear hfz50_2
                            try clear hfz50_3
                            try clear hfz50_4
                            try clear hfz50_5
                            try clear hfz52_0
                            try clear hfz52_1
                            try clear hfz52_2
                            try clear hfz52_3
                            try clear hfz52_4
                            try clear hfz52_5
                            try clear hfz52_6
                            try clear hx128_0
                            try clear hx128_1
                            try clear hx128_2
                            try clear hx128_3
                            try clear hx128_4
                            try clear hx128_5
                            try clear hx128_6
                            try clear p1
                            try clear p12
                            try clear p128
                            try clear p2
                            try clear q1
                            try clear q12
                            try clear q128
                            try clear q18
                            obtain ⟨kq, x53_45, rfl, HA, HJ45, HO_5, BK124, BK129, HB⟩ := hcut
                            cases kq with
                            | zero => exact absurd HA.out (by simp [ask_Encode.j4])
                            | succ kj45 =>
                              have H := HA.out
                              clear HA
                              simp only [ask_Encode.j4] at H
                              have HC53 := Aside0.mk H
                              clear H
                              go_upto_if 53 with (fail)
                              go_cut [5] (fun v5 wc => ∃ (kq : Nat) (x5_52 : List ByteArray), Aside0 (ask_Encode.j5 kq x5_52 a0_0 a0_1 a0_2 a0_3 a0_4 l0_5 ((rd_T47 t125 x11_1).f0) ((rd_T47 t125 x11_1).f1) ((rd_T47 t125 x11_1).f2) ((rd_T47 t125 x11_1).f3) ((rd_T47 t125 x11_1).f4) ((rd_T47 t125 x11_1).f5) ((rd_T47 t125 x11_1).f6) = some r) ∧ Aside0 (kq ≤ kj45) ∧ Aside0 (Kd.R Kd.string 9 wc w.heap.size (fun _ => True) v5 x5_52) ∧ Aside0 (wc.heap[gb124]? = some (.cells #[.int .i64 a0_0, .int .i64 a0_1, .int .i64 a0_2, .int .i64 a0_3, .string a0_4, (.slice A0_5 l0_5.length c0_5)] 25 (0, 0))) ∧ Aside0 (wc.heap[gb129]? = some (.cells #[.string ((rd_T47 t125 x11_1).f0), .int .i64 ((rd_T47 t125 x11_1).f1), .bool ((rd_T47 t125 x11_1).f2), .bool ((rd_T47 t125 x11_1).f3), .bool ((rd_T47 t125 x11_1).f4), .bool ((rd_T47 t125 x11_1).f5), .bool ((rd_T47 t125 x11_1).f6)] 47 (0, 0))) ∧ Aside0 (Below w.heap.size w wc))
                              case first =>
                                have H := HC53.out
                                clear HC53
                                by_cases c54 : x53_45 = true
                                · subst c54
                                  have H1 : (if x5_35.length < 8796093022208 then (ask_Encode.j5 kj45 (x5_35 ++ [a0_4]) a0_0 a0_1 a0_2 a0_3 a0_4 l0_5 ((rd_T47 t125 x11_1).f0) ((rd_T47 t125 x11_1).f1) ((rd_T47 t125 x11_1).f2) ((rd_T47 t125 x11_1).f3) ((rd_T47 t125 x11_1).f4) ((rd_T47 t125 x11_1).f5) ((rd_T47 t125 x11_1).f6)) else (none)) = some r := by rw [if_pos rfl] at H; exact H
                                  clear H
                                  have H := H1
                                  clear H1
                                  by_cases c55 : x5_35.length < 8796093022208
                                  · rw [if_pos c55] at H
                                    have LMc55 := Aside0.mk c55
                                    clear c55
                                    obtain ⟨y145, hy145⟩ : ∃ y_ : List ByteArray, y_ = (x5_35 ++ [a0_4]) := ⟨_, rfl⟩
                                    replace H : (ask_Encode.j5 kj45 y145 a0_0 a0_1 a0_2 a0_3 a0_4 l0_5 ((rd_T47 t125 x11_1).f0) ((rd_T47 t125 x11_1).f1) ((rd_T47 t125 x11_1).f2) ((rd_T47 t125 x11_1).f3) ((rd_T47 t125 x11_1).f4) ((rd_T47 t125 x11_1).f5) ((rd_T47 t125 x11_1).f6)) = some r := by first | (rw [hy145]; with_reducible exact H) | (have H2_ := (Option.bind_some _ _).symm.trans H; rw [hy145]; with_reducible exact H2_) | (have H2_ := (Option.bind_some _ _).symm.trans H; with_reducible exact H2_) | with_reducible exact H | (rw [hy145]; exact H) | exact H
                                    have Ny145 := Aside0.mk hy145
                                    clear hy145
                                    have H' := Aside0.mk H
                                    clear H
                                    have hnb56 := NB124_129.out
                                    have hnc56 := NB129_124.out
                                    have hcz57_0 : wc.cell? ⟨gb124, 0, none⟩ = some (.int .i64 a0_0) := (blk_cell BK124.out 0).trans rfl
                                    have hcz57_1 : wc.cell? ⟨gb124, 1, none⟩ = some (.int .i64 a0_1) := (blk_cell BK124.out 1).trans rfl
                                    have hcz57_2 : wc.cell? ⟨gb124, 2, none⟩ = some (.int .i64 a0_2) := (blk_cell BK124.out 2).trans rfl
                                    have hcz57_3 : wc.cell? ⟨gb124, 3, none⟩ = some (.int .i64 a0_3) := (blk_cell BK124.out 3).trans rfl
                                    have hcz57_4 : wc.cell? ⟨gb124, 4, none⟩ = some (.string a0_4) := (blk_cell BK124.out 4).trans rfl
                                    have hcz57_5 : wc.cell? ⟨gb124, 5, none⟩ = some (.slice A0_5 l0_5.length c0_5) := (blk_cell BK124.out 5).trans rfl
                                    have hfz57_0 := blk_frozen BK124.out 0
                                    have hfz57_1 := blk_frozen BK124.out 1
                                    have hfz57_2 := blk_frozen BK124.out 2
                                    have hfz57_3 := blk_frozen BK124.out 3
                                    have hfz57_4 := blk_frozen BK124.out 4
                                    have hfz57_5 := blk_frozen BK124.out 5
                                    go_wp2_with (first | ((with_reducible refine gate_builtin (b := .append) (xs := #[.tmp 54, .tmp 57]) rfl ?_); (try (refine gate_guard (by rfl) ?_; dsimp only)); at_builtin; refine Kd.R_append Kd.string (w0 := w) w.heap.size rfl (.tmp 54) (.tmp 57) 48 9 (.string ⟨#[]⟩) 16 rfl Tryd.underlying48 info9 rfl (by decide) (by omega) u5 x5_35 a0_4 [.string a0_4] (fun _ => True) (fun _ => False) rfl rfl ?aP (fun _ hk => hk.elim) ?aF ?aO ?aB ?aS ?aL ?_; (case aP => exact rfl); (case aB => exact (by repeat (first | (with_reducible first | exact HB.out | apply below_alloc | apply pw_below_drewN | apply below_drew1 | refine below_set ?_ GE124.out | refine below_set ?_ GE129.out) | exact HB.out))); (case aF => exact (fun _ _ => trivial)); (case aO => exact (by (with_reducible repeat (first | apply Kd.R_alloc | apply Kd.R_drewN | apply Kd.R_drew)); exact HO_5.out)); (case aS => exact (below_size (by repeat (first | (with_reducible first | exact HB.out | apply below_alloc | apply pw_below_drewN | apply below_drew1 | refine below_set ?_ GE124.out | refine below_set ?_ GE129.out) | exact HB.out)))); (case aL => have := LMc55.out; omega); intro v146 w58 ho hb hg hat; rw [← Ny145.out] at ho; have n0_ := Aside0.mk (blk_grown (g := gb124) (o := .cells #[.int .i64 a0_0, .int .i64 a0_1, .int .i64 a0_2, .int .i64 a0_3, .string a0_4, .slice A0_5 l0_5.length c0_5] 25 (0, 0)) (by (with_reducible repeat (first | refine blk_drewN ?_ _ | refine blk_drew ?_ | refine blk_alloc ?_ _)); exact BK124.out) hg (Kd.R_ne HO_5.out BK124.out (by decide))); have n1_ := Aside0.mk (blk_grown (g := gb129) (o := .cells #[.string ((rd_T47 t125 x11_1).f0), .int .i64 ((rd_T47 t125 x11_1).f1), .bool ((rd_T47 t125 x11_1).f2), .bool ((rd_T47 t125 x11_1).f3), .bool ((rd_T47 t125 x11_1).f4), .bool ((rd_T47 t125 x11_1).f5), .bool ((rd_T47 t125 x11_1).f6)] 47 (0, 0)) (by (with_reducible repeat (first | refine blk_drewN ?_ _ | refine blk_drew ?_ | refine blk_alloc ?_ _)); exact BK129.out) hg (Kd.R_ne HO_5.out BK129.out (by decide))); have n2_ := Aside0.mk (hb); have n3_ := Aside0.mk (ho); clear BK124; clear BK129; clear HB; clear HO_5; have BK124 := n0_; have BK129 := n1_; have HB := n2_; have HO147 := n3_; clear n0_ n1_ n2_ n3_; clear ho hb hg hat))
                                    go_meet
                                    case rel => exact ⟨_, (y145), H', ⟨by have := HK1.out; have := HJ9.out; have := HJ25.out; have := HJ35.out; have := HJ45.out; first | omega | exact Nat.le_refl _⟩, ⟨by (with_reducible repeat (first | apply Kd.R_alloc | apply Kd.R_drewN | apply Kd.R_drew)); exact HO147.out⟩, ⟨by (with_reducible repeat (first | refine blk_drewN ?_ _ | refine blk_drew ?_ | refine blk_alloc ?_ _)); exact BK124.out⟩, ⟨by (with_reducible repeat (first | refine blk_drewN ?_ _ | refine blk_drew ?_ | refine blk_alloc ?_ _)); exact BK129.out⟩, ⟨by repeat (first | (with_reducible first | exact HB.out | apply below_alloc | apply pw_below_drewN | apply below_drew1 | refine below_set ?_ GE124.out | refine below_set ?_ GE129.out) | exact HB.out)⟩⟩
                                  · rw [if_neg c55] at H
                                    exact absurd H (by simp)
                                · replace c54 := Bool.eq_false_iff.mpr c54
                                  subst c54
                                  have H1 : (ask_Encode.j5 kj45 x5_35 a0_0 a0_1 a0_2 a0_3 a0_4 l0_5 ((rd_T47 t125 x11_1).f0) ((rd_T47 t125 x11_1).f1) ((rd_T47 t125 x11_1).f2) ((rd_T47 t125 x11_1).f3) ((rd_T47 t125 x11_1).f4) ((rd_T47 t125 x11_1).f5) ((rd_T47 t125 x11_1).f6)) = some r := by rw [if_neg (show ¬ (false = true) by decide)] at H; exact H
                                  clear H
                                  have H := H1
                                  clear H1
                                  have H' := Aside0.mk H
                                  clear H
                                  go_wp2
                                  go_meet
                                  case rel => exact ⟨_, (x5_35), H', ⟨by have := HK1.out; have := HJ9.out; have := HJ25.out; have := HJ35.out; have := HJ45.out; first | omega | exact Nat.le_refl _⟩, ⟨by (with_reducible repeat (first | apply Kd.R_alloc | apply Kd.R_drewN | apply Kd.R_drew)); exact HO_5.out⟩, ⟨by (with_reducible repeat (first | refine blk_drewN ?_ _ | refine blk_drew ?_ | refine blk_alloc ?_ _)); exact BK124.out⟩, ⟨by (with_reducible repeat (first | refine blk_drewN ?_ _ | refine blk_drew ?_ | refine blk_alloc ?_ _)); exact BK129.out⟩, ⟨by repeat (first | (with_reducible first | exact HB.out | apply below_alloc | apply pw_below_drewN | apply below_drew1 | refine below_set ?_ GE124.out | refine below_set ?_ GE129.out) | exact HB.out)⟩⟩
                              case rest =>
                                clear HC53
                                try clear c1
                                try clear p1
                                try clear q1
                                try clear hx1
                                try clear c2
                                try clear p2
                                try clear c3
                                try clear c4
                                try clear c5
                                try clear c6
                                try clear c6b0
                                try clear c7
                                try clear c7b0
                                try clear c8
                                try clear c8b0
                                try clear c9
                                try clear c9b0
                                try clear c9b1
                                try clear c12
                                try clear p12
                                try clear q12
                                try clear hx12
                                try clear c13
                                try clear c15
                                try clear q18
                                try clear c19
                                try clear c20
                                try clear c21
                                try clear c22
                                try clear c27
                                try clear c29
                                try clear c29b0
                                try clear c31
                                try clear c32
                                try clear c37
                                try clear c39
                                try clear c39b0
                                try clear c41
                                try clear c42
                                try clear c47
                                try clear c47b0
                                try clear c48
                                try clear c51
                                try clear c54
                                try clear c55
                                try clear c56
                                try clear hcz13_0
                                try clear hcz13_1
                                try clear hcz13_2
                                try clear hcz13_3
                                try clear hcz13_4
                                try clear hcz13_5
                                try clear hcz13_6
                                try clear hcz14_0
                                try clear hcz14_1
                                try clear hcz14_2
                                try clear hcz14_3
                                try clear hcz14_4
                                try clear hcz14_5
                                try clear hcz17_0
                                try clear hcz17_1
                                try clear hcz17_2
                                try clear hcz17_3
                                try clear hcz17_4
                                try clear hcz17_5
                                try clear hcz17_6
                                try clear hcz23_0
                                try clear hcz23_1
                                try clear hcz23_2
                                try clear hcz23_3
                                try clear hcz23_4
                                try clear hcz23_5
                                try clear hcz28_0
                                try clear hcz28_1
                                try clear hcz28_2
                                try clear hcz28_3
                                try clear hcz28_4
                                try clear hcz28_5
                                try clear hcz28_6
                                try clear hcz33_0
                                try clear hcz33_1
                                try clear hcz33_2
                                try clear hcz33_3
                                try clear hcz33_4
                                try clear hcz33_5
                                try clear hcz38_0
                                try clear hcz38_1
                                try clear hcz38_2
                                try clear hcz38_3
                                try clear hcz38_4
                                try clear hcz38_5
                                try clear hcz38_6
                                try clear hcz43_0
                                try clear hcz43_1
                                try clear hcz43_2
                                try clear hcz43_3
                                try clear hcz43_4
                                try clear hcz43_5
                                try clear hcz49_0
                                try clear hcz49_1
                                try clear hcz49_2
                                try clear hcz49_3
                                try clear hcz49_4
                                try clear hcz49_5
                                try clear hcz49_6
                                try clear hcz50_0
                                try clear hcz50_1
                                try clear hcz50_2
                                try clear hcz50_3
                                try clear hcz50_4
                                try clear hcz50_5
                                try clear hcz52_0
                                try clear hcz52_1
                                try clear hcz52_2
                                try clear hcz52_3
                                try clear hcz52_4
                                try clear hcz52_5
                                try clear hcz52_6
                                try clear hcz57_0
                                try clear hcz57_1
                                try clear hcz57_2
                                try clear hcz57_3
                                try clear hcz57_4
                                try clear hcz57_5
                                try clear hfz13_0
                                try clear hfz13_1
                                try clear hfz13_2
                                try clear hfz13_3
                                try clear hfz13_4
                                try clear hfz13_5
                                try clear hfz13_6
                                try clear hfz14_0
                                try clear hfz14_1
                                try clear hfz14_2
                                try clear hfz14_3
                                try clear hfz14_4
                                try clear hfz14_5
                                try clear hfz17_0
                                try clear hfz17_1
                                try clear hfz17_2
                                try clear hfz17_3
                                try clear hfz17_4
                                try clear hfz17_5
                                try clear hfz17_6
                                try clear hfz23_0
                                try clear hfz23_1
                                try clear hfz23_2
                                try clear hfz23_3
                                try clear hfz23_4
                                try clear hfz23_5
                                try clear hfz28_0
                                try clear hfz28_1
                                try clear hfz28_2
                                try clear hfz28_3
                                try clear hfz28_4
                                try clear hfz28_5
                                try clear hfz28_6
                                try clear hfz33_0
                                try clear hfz33_1
                                try clear hfz33_2
                                try clear hfz33_3
                                try clear hfz33_4
                                try clear hfz33_5
                                try clear hfz38_0
                                try clear hfz38_1
                                try clear hfz38_2
                                try clear hfz38_3
                                try clear hfz38_4
                                try clear hfz38_5
                                try clear hfz38_6
                                try clear hfz43_0
                                try clear hfz43_1
                                try clear hfz43_2
                                try clear hfz43_3
                                try clear hfz43_4
                                try clear hfz43_5
                                try clear hfz49_0
                                try clear hfz49_1
                                try clear hfz49_2
                                try clear hfz49_3
                                try clear hfz49_4
                                try clear hfz49_5
                                try clear hfz49_6
                                try clear hfz50_0
                                try clear hfz50_1
                                try clear hfz50_2
                                try clear hfz50_3
                                try clear hfz50_4
                                try clear hfz50_5
                                try clear hfz52_0
                                try clear hfz52_1
                                try clear hfz52_2
                                try clear hfz52_3
                                try clear hfz52_4
                                try clear hfz52_5
                                try clear hfz52_6
                                try clear hfz57_0
                                try clear hfz57_1
                                try clear hfz57_2
                                try clear hfz57_3
                                try clear hfz57_4
                                try clear hfz57_5
                                try clear hx128_0
                                try clear hx128_1
                                try clear hx128_2
                                try clear hx128_3
                                try clear hx128_4
                                try clear hx128_5
                                try clear hx128_6
                                try clear p1
                                try clear p12
                                try clear p128
                                try clear p2
                                try clear q1
                                try clear q12
                                try clear q128
                                try clear q18
                                obtain ⟨kq, x5_52, HA, HJ52, HO_5, BK124, BK129, HB⟩ := hcut
                                cases kq with
                                | zero => exact absurd HA.out (by simp [ask_Encode.j5])
                                | succ kj52 =>
                                  have H := HA.out
                                  clear HA
                                  simp only [ask_Encode.j5] at H
                                  have HC59 := Aside0.mk H
                                  clear H
                                  go_upto_region 14 with (fail)
                                  go_cut [66] (fun v66 wc => ∃ (kq : Nat) (x66_58 : Bool), v66 = .bool x66_58 ∧ Aside0 (ask_Encode.j6 kq x5_52 x66_58 a0_0 a0_1 a0_2 a0_3 a0_4 l0_5 = some r) ∧ Aside0 (kq ≤ kj52) ∧ Aside0 (Kd.R Kd.string 9 wc w.heap.size (fun _ => True) u5 x5_52) ∧ Aside0 (wc.heap[gb124]? = some (.cells #[.int .i64 a0_0, .int .i64 a0_1, .int .i64 a0_2, .int .i64 a0_3, .string a0_4, (.slice A0_5 l0_5.length c0_5)] 25 (0, 0))) ∧ Aside0 (wc.heap[gb129]? = some (.cells #[.string ((rd_T47 t125 x11_1).f0), .int .i64 ((rd_T47 t125 x11_1).f1), .bool ((rd_T47 t125 x11_1).f2), .bool ((rd_T47 t125 x11_1).f3), .bool ((rd_T47 t125 x11_1).f4), .bool ((rd_T47 t125 x11_1).f5), .bool ((rd_T47 t125 x11_1).f6)] 47 (0, 0))) ∧ Aside0 (Below w.heap.size w wc))
                                  case first =>
                                    have H := HC59.out
                                    clear HC59
                                    by_cases c60 : ((rd_T47 t125 x11_1).f5) = true
                                    · rw [if_pos c60] at H
                                      have c60b0 : ((rd_T47 t125 x11_1).f5) = true := c60
                                      clear c60
                                      (first | rw [c60b0] | (simp only [i64_w, i32_w]; rw [c60b0]) | skip)
                                      have H' := Aside0.mk H
                                      clear H
                                      have hnb61 := NB129_124.out
                                      have hnc61 := NB124_129.out
                                      have hcz62_0 : wc.cell? ⟨gb129, 0, none⟩ = some (.string ((rd_T47 t125 x11_1).f0)) := (blk_cell BK129.out 0).trans rfl
                                      have hcz62_1 : wc.cell? ⟨gb129, 1, none⟩ = some (.int .i64 ((rd_T47 t125 x11_1).f1)) := (blk_cell BK129.out 1).trans rfl
                                      have hcz62_2 : wc.cell? ⟨gb129, 2, none⟩ = some (.bool ((rd_T47 t125 x11_1).f2)) := (blk_cell BK129.out 2).trans rfl
                                      have hcz62_3 : wc.cell? ⟨gb129, 3, none⟩ = some (.bool ((rd_T47 t125 x11_1).f3)) := (blk_cell BK129.out 3).trans rfl
                                      have hcz62_4 : wc.cell? ⟨gb129, 4, none⟩ = some (.bool ((rd_T47 t125 x11_1).f4)) := (blk_cell BK129.out 4).trans rfl
                                      have hcz62_5 : wc.cell? ⟨gb129, 5, none⟩ = some (.bool ((rd_T47 t125 x11_1).f5)) := (blk_cell BK129.out 5).trans rfl
                                      have hcz62_6 : wc.cell? ⟨gb129, 6, none⟩ = some (.bool ((rd_T47 t125 x11_1).f6)) := (blk_cell BK129.out 6).trans rfl
                                      have hfz62_0 := blk_frozen BK129.out 0
                                      have hfz62_1 := blk_frozen BK129.out 1
                                      have hfz62_2 := blk_frozen BK129.out 2
                                      have hfz62_3 := blk_frozen BK129.out 3
                                      have hfz62_4 := blk_frozen BK129.out 4
                                      have hfz62_5 := blk_frozen BK129.out 5
                                      have hfz62_6 := blk_frozen BK129.out 6
                                      have hcz63_0 : wc.cell? ⟨gb124, 0, none⟩ = some (.int .i64 a0_0) := (blk_cell BK124.out 0).trans rfl
                                      have hcz63_1 : wc.cell? ⟨gb124, 1, none⟩ = some (.int .i64 a0_1) := (blk_cell BK124.out 1).trans rfl
                                      have hcz63_2 : wc.cell? ⟨gb124, 2, none⟩ = some (.int .i64 a0_2) := (blk_cell BK124.out 2).trans rfl
                                      have hcz63_3 : wc.cell? ⟨gb124, 3, none⟩ = some (.int .i64 a0_3) := (blk_cell BK124.out 3).trans rfl
                                      have hcz63_4 : wc.cell? ⟨gb124, 4, none⟩ = some (.string a0_4) := (blk_cell BK124.out 4).trans rfl
                                      have hcz63_5 : wc.cell? ⟨gb124, 5, none⟩ = some (.slice A0_5 l0_5.length c0_5) := (blk_cell BK124.out 5).trans rfl
                                      have hfz63_0 := blk_frozen BK124.out 0
                                      have hfz63_1 := blk_frozen BK124.out 1
                                      have hfz63_2 := blk_frozen BK124.out 2
                                      have hfz63_3 := blk_frozen BK124.out 3
                                      have hfz63_4 := blk_frozen BK124.out 4
                                      have hfz63_5 := blk_frozen BK124.out 5
                                      go_wp2
                                      go_meet
                                      case rel => exact ⟨_, (decide ((l0_5.length : Int) > 0)), (by first | rfl | (simp; done) | (simp; exact (fun l_ : List UInt8 => (by cases l_ <;> rfl : l_.isEmpty = !(l_ != []))) _) | (simp [*]; done)), H', ⟨by have := HK1.out; have := HJ9.out; have := HJ25.out; have := HJ35.out; have := HJ45.out; have := HJ52.out; first | omega | exact Nat.le_refl _⟩, ⟨by (with_reducible repeat (first | apply Kd.R_alloc | apply Kd.R_drewN | apply Kd.R_drew)); exact HO_5.out⟩, ⟨by (with_reducible repeat (first | refine blk_drewN ?_ _ | refine blk_drew ?_ | refine blk_alloc ?_ _)); exact BK124.out⟩, ⟨by (with_reducible repeat (first | refine blk_drewN ?_ _ | refine blk_drew ?_ | refine blk_alloc ?_ _)); exact BK129.out⟩, ⟨by repeat (first | (with_reducible first | exact HB.out | apply below_alloc | apply pw_below_drewN | apply below_drew1 | refine below_set ?_ GE124.out | refine below_set ?_ GE129.out) | exact HB.out)⟩⟩
                                    · rw [if_neg c60] at H
                                      have c60b0 : ((rd_T47 t125 x11_1).f5) = false := by simpa using c60
                                      clear c60
                                      (first | rw [c60b0] | (simp only [i64_w, i32_w]; rw [c60b0]) | skip)
                                      have H' := Aside0.mk H
                                      clear H
                                      have hnb64 := NB129_124.out
                                      have hnc64 := NB124_129.out
                                      have hcz65_0 : wc.cell? ⟨gb129, 0, none⟩ = some (.string ((rd_T47 t125 x11_1).f0)) := (blk_cell BK129.out 0).trans rfl
                                      have hcz65_1 : wc.cell? ⟨gb129, 1, none⟩ = some (.int .i64 ((rd_T47 t125 x11_1).f1)) := (blk_cell BK129.out 1).trans rfl
                                      have hcz65_2 : wc.cell? ⟨gb129, 2, none⟩ = some (.bool ((rd_T47 t125 x11_1).f2)) := (blk_cell BK129.out 2).trans rfl
                                      have hcz65_3 : wc.cell? ⟨gb129, 3, none⟩ = some (.bool ((rd_T47 t125 x11_1).f3)) := (blk_cell BK129.out 3).trans rfl
                                      have hcz65_4 : wc.cell? ⟨gb129, 4, none⟩ = some (.bool ((rd_T47 t125 x11_1).f4)) := (blk_cell BK129.out 4).trans rfl
                                      have hcz65_5 : wc.cell? ⟨gb129, 5, none⟩ = some (.bool ((rd_T47 t125 x11_1).f5)) := (blk_cell BK129.out 5).trans rfl
                                      have hcz65_6 : wc.cell? ⟨gb129, 6, none⟩ = some (.bool ((rd_T47 t125 x11_1).f6)) := (blk_cell BK129.out 6).trans rfl
                                      have hfz65_0 := blk_frozen BK129.out 0
                                      have hfz65_1 := blk_frozen BK129.out 1
                                      have hfz65_2 := blk_frozen BK129.out 2
                                      have hfz65_3 := blk_frozen BK129.out 3
                                      have hfz65_4 := blk_frozen BK129.out 4
                                      have hfz65_5 := blk_frozen BK129.out 5
                                      have hfz65_6 := blk_frozen BK129.out 6
                                      go_wp2
                                      go_meet
                                      case rel => exact ⟨_, (false), (by first | rfl | (simp; done) | (simp; exact (fun l_ : List UInt8 => (by cases l_ <;> rfl : l_.isEmpty = !(l_ != []))) _) | (simp [*]; done)), H', ⟨by have := HK1.out; have := HJ9.out; have := HJ25.out; have := HJ35.out; have := HJ45.out; have := HJ52.out; first | omega | exact Nat.le_refl _⟩, ⟨by (with_reducible repeat (first | apply Kd.R_alloc | apply Kd.R_drewN | apply Kd.R_drew)); exact HO_5.out⟩, ⟨by (with_reducible repeat (first | refine blk_drewN ?_ _ | refine blk_drew ?_ | refine blk_alloc ?_ _)); exact BK124.out⟩, ⟨by (with_reducible repeat (first | refine blk_drewN ?_ _ | refine blk_drew ?_ | refine blk_alloc ?_ _)); exact BK129.out⟩, ⟨by repeat (first | (with_reducible first | exact HB.out | apply below_alloc | apply pw_below_drewN | apply below_drew1 | refine below_set ?_ GE124.out | refine below_set ?_ GE129.out) | exact HB.out)⟩⟩
                                  case rest =>
                                    clear HC59
                                    try clear c1
                                    try clear p1
                                    try clear q1
                                    try clear hx1
                                    try clear c2
                                    try clear p2
                                    try clear c3
                                    try clear c4
                                    try clear c5
                                    try clear c6
                                    try clear c6b0
                                    try clear c7
                                    try clear c7b0
                                    try clear c8
                                    try clear c8b0
                                    try clear c9
                                    try clear c9b0
                                    try clear c9b1
                                    try clear c12
                                    try clear p12
                                    try clear q12
                                    try clear hx12
                                    try clear c13
                                    try clear c15
                                    try clear q18
                                    try clear c19
                                    try clear c20
                                    try clear c21
                                    try clear c22
                                    try clear c27
                                    try clear c29
                                    try clear c29b0
                                    try clear c31
                                    try clear c32
                                    try clear c37
                                    try clear c39
                                    try clear c39b0
                                    try clear c41
                                    try clear c42
                                    try clear c47
                                    try clear c47b0
                                    try clear c48
                                    try clear c51
                                    try clear c54
                                    try clear c55
                                    try clear c56
                                    try clear c60
                                    try clear c60b0
                                    try clear c61
                                    try clear c64
                                    try clear hcz13_0
                                    try clear hcz13_1
                                    try clear hcz13_2
                                    try clear hcz13_3
                                    try clear hcz13_4
                                    try clear hcz13_5
                                    try clear hcz13_6
                                    try clear hcz14_0
                                    try clear hcz14_1
                                    try clear hcz14_2
                                    try clear hcz14_3
                                    try clear hcz14_4
                                    try clear hcz14_5
                                    try clear hcz17_0
                                    try clear hcz17_1
                                    try clear hcz17_2
                                    try clear hcz17_3
                                    try clear hcz17_4
                                    try clear hcz17_5
                                    try clear hcz17_6
                                    try clear hcz23_0
                                    try clear hcz23_1
                                    try clear hcz23_2
                                    try clear hcz23_3
                                    try clear hcz23_4
                                    try clear hcz23_5
                                    try clear hcz28_0
                                    try clear hcz28_1
                                    try clear hcz28_2
                                    try clear hcz28_3
                                    try clear hcz28_4
                                    try clear hcz28_5
                                    try clear hcz28_6
                                    try clear hcz33_0
                                    try clear hcz33_1
                                    try clear hcz33_2
                                    try clear hcz33_3
                                    try clear hcz33_4
                                    try clear hcz33_5
                                    try clear hcz38_0
                                    try clear hcz38_1
                                    try clear hcz38_2
                                    try clear hcz38_3
                                    try clear hcz38_4
                                    try clear hcz38_5
                                    try clear hcz38_6
                                    try clear hcz43_0
                                    try clear hcz43_1
                                    try clear hcz43_2
                                    try clear hcz43_3
                                    try clear hcz43_4
                                    try clear hcz43_5
                                    try clear hcz49_0
                                    try clear hcz49_1
                                    try clear hcz49_2
                                    try clear hcz49_3
                                    try clear hcz49_4
                                    try clear hcz49_5
                                    try clear hcz49_6
                                    try clear hcz50_0
                                    try clear hcz50_1
                                    try clear hcz50_2
                                    try clear hcz50_3
                                    try clear hcz50_4
                                    try clear hcz50_5
                                    try clear hcz52_0
                                    try clear hcz52_1
                                    try clear hcz52_2
                                    try clear hcz52_3
                                    try clear hcz52_4
                                    try clear hcz52_5
                                    try clear hcz52_6
                                    try clear hcz57_0
                                    try clear hcz57_1
                                    try clear hcz57_2
                                    try clear hcz57_3
                                    try clear hcz57_4
                                    try clear hcz57_5
                                    try clear hcz62_0
                                    try clear hcz62_1
                                    try clear hcz62_2
                                    try clear hcz62_3
                                    try clear hcz62_4
                                    try clear hcz62_5
                                    try clear hcz62_6
                                    try clear hcz63_0
                                    try clear hcz63_1
                                    try clear hcz63_2
                                    try clear hcz63_3
                                    try clear hcz63_4
                                    try clear hcz63_5
                                    try clear hcz65_0
                                    try clear hcz65_1
                                    try clear hcz65_2
                                    try clear hcz65_3
                                    try clear hcz65_4
                                    try clear hcz65_5
                                    try clear hcz65_6
                                    try clear hfz13_0
                                    try clear hfz13_1
                                    try clear hfz13_2
                                    try clear hfz13_3
                                    try clear hfz13_4
                                    try clear hfz13_5
                                    try clear hfz13_6
                                    try clear hfz14_0
                                    try clear hfz14_1
                                    try clear hfz14_2
                                    try clear hfz14_3
                                    try clear hfz14_4
                                    try clear hfz14_5
                                    try clear hfz17_0
                                    try clear hfz17_1
                                    try clear hfz17_2
                                    try clear hfz17_3
                                    try clear hfz17_4
                                    try clear hfz17_5
                                    try clear hfz17_6
                                    try clear hfz23_0
                                    try clear hfz23_1
                                    try clear hfz23_2
                                    try clear hfz23_3
                                    try clear hfz23_4
                                    try clear hfz23_5
                                    try clear hfz28_0
                                    try clear hfz28_1
                                    try clear hfz28_2
                                    try clear hfz28_3
                                    try clear hfz28_4
                                    try clear hfz28_5
                                    try clear hfz28_6
                                    try clear hfz33_0
                                    try clear hfz33_1
                                    try clear hfz33_2
                                    try clear hfz33_3
                                    try clear hfz33_4
                                    try clear hfz33_5
                                    try clear hfz38_0
                                    try clear hfz38_1
                                    try clear hfz38_2
                                    try clear hfz38_3
                                    try clear hfz38_4
                                    try clear hfz38_5
                                    try clear hfz38_6
                                    try clear hfz43_0
                                    try clear hfz43_1
                                    try clear hfz43_2
                                    try clear hfz43_3
                                    try clear hfz43_4
                                    try clear hfz43_5
                                    try clear hfz49_0
                                    try clear hfz49_1
                                    try clear hfz49_2
                                    try clear hfz49_3
                                    try clear hfz49_4
                                    try clear hfz49_5
                                    try clear hfz49_6
                                    try clear hfz50_0
                                    try clear hfz50_1
                                    try clear hfz50_2
                                    try clear hfz50_3
                                    try clear hfz50_4
                                    try clear hfz50_5
                                    try clear hfz52_0
                                    try clear hfz52_1
                                    try clear hfz52_2
                                    try clear hfz52_3
                                    try clear hfz52_4
                                    try clear hfz52_5
                                    try clear hfz52_6
                                    try clear hfz57_0
                                    try clear hfz57_1
                                    try clear hfz57_2
                                    try clear hfz57_3
                                    try clear hfz57_4
                                    try clear hfz57_5
                                    try clear hfz62_0
                                    try clear hfz62_1
                                    try clear hfz62_2
                                    try clear hfz62_3
                                    try clear hfz62_4
                                    try clear hfz62_5
                                    try clear hfz62_6
                                    try clear hfz63_0
                                    try clear hfz63_1
                                    try clear hfz63_2
                                    try clear hfz63_3
                                    try clear hfz63_4
                                    try clear hfz63_5
                                    try clear hfz65_0
                                    try clear hfz65_1
                                    try clear hfz65_2
                                    try clear hfz65_3
                                    try clear hfz65_4
                                    try clear hfz65_5
                                    try clear hfz65_6
                                    try clear hx128_0
                                    try clear hx128_1
                                    try clear hx128_2
                                    try clear hx128_3
                                    try clear hx128_4
                                    try clear hx128_5
                                    try clear hx128_6
                                    try clear p1
                                    try clear p12
                                    try clear p128
                                    try clear p2
                                    try clear q1
                                    try clear q12
                                    try clear q128
                                    try clear q18
                                    obtain ⟨kq, x66_58, rfl, HA, HJ58, HO_5, BK124, BK129, HB⟩ := hcut
                                    cases kq with
                                    | zero => exact absurd HA.out (by simp [ask_Encode.j6])
                                    | succ kj58 =>
                                      have H := HA.out
                                      clear HA
                                      simp only [ask_Encode.j6] at H
                                      by_cases c66 : x66_58 = true
                                      · subst c66
                                        have H1 : (if 0 ≤ (wrap64 (2 * (l0_5.length : Int))) then (if (wrap64 (2 * (l0_5.length : Int)) : Int).toNat ≤ 281474976710656 then (ask_Encode.l1 kj58 x5_52 (List.replicate 0 0) l0_5 (l0_5.length : Int) 0) else (none)) else (none)) = some r := by rw [if_pos rfl] at H; exact H
                                        clear H
                                        have H := H1
                                        clear H1
                                        obtain ⟨ji67, hji67⟩ : ∃ j_ : Int, (wrap64 (2 * (l0_5.length : Int))) = j_ := ⟨_, rfl⟩
                                        replace H : (if 0 ≤ (ji67) then (if (ji67 : Int).toNat ≤ 281474976710656 then (ask_Encode.l1 kj58 x5_52 (List.replicate 0 0) l0_5 (l0_5.length : Int) 0) else (none)) else (none)) = some r := by first | (rw [hji67] at H; exact H) | (simp only [hji67] at H ⊢; exact H)
                                        have hji67w : (IntKind.i64.wrap (2 * (l0_5.length : Int))) = ji67 := (i64_w _).trans hji67
                                        by_cases c68 : 0 ≤ (ji67)
                                        · rw [if_pos c68] at H
                                          have c68b0 := eq_true c68
                                          have c68b1 : decide (0 ≤ (ji67)) = true := decide_eq_true c68
                                          clear c68
                                          by_cases c69 : (ji67 : Int).toNat ≤ 281474976710656
                                          · rw [if_pos c69] at H
                                            have c69b0 := eq_true c69
                                            have c69b1 : decide ((ji67 : Int).toNat ≤ 281474976710656) = true := decide_eq_true c69
                                            clear c69
                                            obtain ⟨y148, hy148⟩ : ∃ y_ : List Int, y_ = (List.replicate 0 0) := ⟨_, rfl⟩
                                            replace H : (ask_Encode.l1 kj58 x5_52 y148 l0_5 (l0_5.length : Int) 0) = some r := by first | (rw [hy148]; with_reducible exact H) | (have H2_ := (Option.bind_some _ _).symm.trans H; rw [hy148]; with_reducible exact H2_) | (have H2_ := (Option.bind_some _ _).symm.trans H; with_reducible exact H2_) | with_reducible exact H | (rw [hy148]; exact H) | exact H
                                            have Ny148 := Aside0.mk hy148
                                            clear hy148
                                            have H' := Aside0.mk H
                                            clear H
                                            have hnb70 := NB124_129.out
                                            have hnc70 := NB129_124.out
                                            have hcz71_0 : wc.cell? ⟨gb124, 0, none⟩ = some (.int .i64 a0_0) := (blk_cell BK124.out 0).trans rfl
                                            have hcz71_1 : wc.cell? ⟨gb124, 1, none⟩ = some (.int .i64 a0_1) := (blk_cell BK124.out 1).trans rfl
                                            have hcz71_2 : wc.cell? ⟨gb124, 2, none⟩ = some (.int .i64 a0_2) := (blk_cell BK124.out 2).trans rfl
                                            have hcz71_3 : wc.cell? ⟨gb124, 3, none⟩ = some (.int .i64 a0_3) := (blk_cell BK124.out 3).trans rfl
                                            have hcz71_4 : wc.cell? ⟨gb124, 4, none⟩ = some (.string a0_4) := (blk_cell BK124.out 4).trans rfl
                                            have hcz71_5 : wc.cell? ⟨gb124, 5, none⟩ = some (.slice A0_5 l0_5.length c0_5) := (blk_cell BK124.out 5).trans rfl
                                            have hfz71_0 := blk_frozen BK124.out 0
                                            have hfz71_1 := blk_frozen BK124.out 1
                                            have hfz71_2 := blk_frozen BK124.out 2
                                            have hfz71_3 := blk_frozen BK124.out 3
                                            have hfz71_4 := blk_frozen BK124.out 4
                                            have hfz71_5 := blk_frozen BK124.out 5
                                            go_wp2_with (first | ((with_reducible refine gate_dst (N := 71) rfl ?_); (try (refine gate_guard (by rfl) ?_; dsimp only)); refine Kd_R_make0 (Kd.int .u8) _ 5 rfl (N := 71) rfl 23 _ _ rfl ji67 rfl rfl Tryd.underlying23 (.int .u8 0) 1 info5 rfl (by decide) (by omega) 0 (ok := fun _ => True) (okp := fun _ => True) rfl (fun _ hk => hk) trivial (of_decide_eq_true (by first | (with_reducible assumption) | assumption)) (Nat.le_trans (Nat.mul_le_mul_right _ (of_decide_eq_true (by first | (with_reducible assumption) | assumption) : ji67.toNat ≤ 281474976710656)) (by omega)) (Below.refl _ _) (Nat.le_refl _) ?_; intro v149 w72 ho73 hb hg_ hnew_; clear hg_ hnew_; (first | rw [← Ny148.out] at ho73 | (simp only [Int.reduceToNat] at ho73; rw [← Ny148.out] at ho73)); have n0_ := Aside0.mk (Kd.R_below (by (with_reducible repeat (first | apply Kd.R_alloc | apply Kd.R_drewN | apply Kd.R_drew)); exact HO_5.out) hb); have n1_ := Aside0.mk (Kd.R_lower ho73 (below_size (by repeat (first | (with_reducible first | exact HB.out | apply below_alloc | apply pw_below_drewN | apply below_drew1 | refine below_set ?_ GE124.out | refine below_set ?_ GE129.out) | exact HB.out)))); have n2_ := Aside0.mk (blk_below (g := gb124) (o := .cells #[.int .i64 a0_0, .int .i64 a0_1, .int .i64 a0_2, .int .i64 a0_3, .string a0_4, .slice A0_5 l0_5.length c0_5] 25 (0, 0)) (by (with_reducible repeat (first | refine blk_drewN ?_ _ | refine blk_drew ?_ | refine blk_alloc ?_ _)); exact BK124.out) hb); have n3_ := Aside0.mk (blk_below (g := gb129) (o := .cells #[.string ((rd_T47 t125 x11_1).f0), .int .i64 ((rd_T47 t125 x11_1).f1), .bool ((rd_T47 t125 x11_1).f2), .bool ((rd_T47 t125 x11_1).f3), .bool ((rd_T47 t125 x11_1).f4), .bool ((rd_T47 t125 x11_1).f5), .bool ((rd_T47 t125 x11_1).f6)] 47 (0, 0)) (by (with_reducible repeat (first | refine blk_drewN ?_ _ | refine blk_drew ?_ | refine blk_alloc ?_ _)); exact BK129.out) hb); have n4_ := Aside0.mk (below_step (by repeat (first | (with_reducible first | exact HB.out | apply below_alloc | apply pw_below_drewN | apply below_drew1 | refine below_set ?_ GE124.out | refine below_set ?_ GE129.out) | exact HB.out)) hb); clear HO_5; clear BK124; clear BK129; clear HB; have HO_5 := n0_; have HO150 := n1_; have BK124 := n2_; have BK129 := n3_; have HB := n4_; clear n0_ n1_ n2_ n3_ n4_; clear hb ho73; have hcz74_0 : w72.cell? ⟨gb124, 0, none⟩ = some (.int .i64 a0_0) := (blk_cell BK124.out 0).trans rfl; have hcz74_1 : w72.cell? ⟨gb124, 1, none⟩ = some (.int .i64 a0_1) := (blk_cell BK124.out 1).trans rfl; have hcz74_2 : w72.cell? ⟨gb124, 2, none⟩ = some (.int .i64 a0_2) := (blk_cell BK124.out 2).trans rfl; have hcz74_3 : w72.cell? ⟨gb124, 3, none⟩ = some (.int .i64 a0_3) := (blk_cell BK124.out 3).trans rfl; have hcz74_4 : w72.cell? ⟨gb124, 4, none⟩ = some (.string a0_4) := (blk_cell BK124.out 4).trans rfl; have hcz74_5 : w72.cell? ⟨gb124, 5, none⟩ = some (.slice A0_5 l0_5.length c0_5) := (blk_cell BK124.out 5).trans rfl; have hfz74_0 := blk_frozen BK124.out 0; have hfz74_1 := blk_frozen BK124.out 1; have hfz74_2 := blk_frozen BK124.out 2; have hfz74_3 := blk_frozen BK124.out 3; have hfz74_4 := blk_frozen BK124.out 4; have hfz74_5 := blk_frozen BK124.out 5))
                                            go_loopg [6, 75] kj58 (fun kq v6 v75 w' => ∃ (x6_8 : List Int) (x75_8 : Int), v75 = .int .i64 x75_8 ∧ Aside0 (ask_Encode.l1 kq x5_52 x6_8 l0_5 (l0_5.length : Int) x75_8 = some r) ∧ Aside0 (kq ≤ kj58) ∧ Aside0 (Kd.R Kd.string 9 w' w.heap.size (fun _ => True) u5 x5_52) ∧ Aside0 (Kd.R (Kd.int .u8) 5 w' w.heap.size (fun _ => True) v6 x6_8) ∧ Aside0 (w'.heap[gb124]? = some (.cells #[.int .i64 a0_0, .int .i64 a0_1, .int .i64 a0_2, .int .i64 a0_3, .string a0_4, (.slice A0_5 l0_5.length c0_5)] 25 (0, 0))) ∧ Aside0 (w'.heap[gb129]? = some (.cells #[.string ((rd_T47 t125 x11_1).f0), .int .i64 ((rd_T47 t125 x11_1).f1), .bool ((rd_T47 t125 x11_1).f2), .bool ((rd_T47 t125 x11_1).f3), .bool ((rd_T47 t125 x11_1).f4), .bool ((rd_T47 t125 x11_1).f5), .bool ((rd_T47 t125 x11_1).f6)] 47 (0, 0))) ∧ Aside0 (Below w.heap.size w w'))
                                            case atStart => exact ⟨(y148), (0), (by first | rfl | (simp; done) | (simp; exact (fun l_ : List UInt8 => (by cases l_ <;> rfl : l_.isEmpty = !(l_ != []))) _) | (simp [*]; done)), H', ⟨Nat.le_refl _⟩, ⟨by (with_reducible repeat (first | apply Kd.R_alloc | apply Kd.R_drewN | apply Kd.R_drew)); exact HO_5.out⟩, ⟨by (with_reducible repeat (first | apply Kd.R_alloc | apply Kd.R_drewN | apply Kd.R_drew)); exact HO150.out⟩, ⟨by (with_reducible repeat (first | refine blk_drewN ?_ _ | refine blk_drew ?_ | refine blk_alloc ?_ _)); exact BK124.out⟩, ⟨by (with_reducible repeat (first | refine blk_drewN ?_ _ | refine blk_drew ?_ | refine blk_alloc ?_ _)); exact BK129.out⟩, ⟨by repeat (first | (with_reducible first | exact HB.out | apply below_alloc | apply pw_below_drewN | apply below_drew1 | refine below_set ?_ GE124.out | refine below_set ?_ GE129.out) | exact HB.out)⟩⟩
                                            case round =>
                                              clear H'
                                              try clear c1
                                              try clear p1
                                              try clear q1
                                              try clear hx1
                                              try clear c2
                                              try clear p2
                                              try clear c3
                                              try clear c4
                                              try clear c5
                                              try clear c6
                                              try clear c6b0
                                              try clear p6
                                              try clear c7
                                              try clear c7b0
                                              try clear c8
                                              try clear c8b0
                                              try clear c9
                                              try clear c9b0
                                              try clear c9b1
                                              try clear c12
                                              try clear p12
                                              try clear q12
                                              try clear hx12
                                              try clear c13
                                              try clear c15
                                              try clear q18
                                              try clear c19
                                              try clear c20
                                              try clear c21
                                              try clear c22
                                              try clear c27
                                              try clear c29
                                              try clear c29b0
                                              try clear c31
                                              try clear c32
                                              try clear c37
                                              try clear c39
                                              try clear c39b0
                                              try clear c41
                                              try clear c42
                                              try clear c47
                                              try clear c47b0
                                              try clear c48
                                              try clear c51
                                              try clear c54
                                              try clear c55
                                              try clear c56
                                              try clear c60
                                              try clear c60b0
                                              try clear c61
                                              try clear c64
                                              try clear p64
                                              try clear c66
                                              try clear c68
                                              try clear c68b0
                                              try clear c68b1
                                              try clear c69
                                              try clear c69b0
                                              try clear c69b1
                                              try clear c70
                                              try clear hcz13_0
                                              try clear hcz13_1
                                              try clear hcz13_2
                                              try clear hcz13_3
                                              try clear hcz13_4
                                              try clear hcz13_5
                                              try clear hcz13_6
                                              try clear hcz14_0
                                              try clear hcz14_1
                                              try clear hcz14_2
                                              try clear hcz14_3
                                              try clear hcz14_4
                                              try clear hcz14_5
                                              try clear hcz17_0
                                              try clear hcz17_1
                                              try clear hcz17_2
                                              try clear hcz17_3
                                              try clear hcz17_4
                                              try clear hcz17_5
                                              try clear hcz17_6
                                              try clear hcz23_0
                                              try clear hcz23_1
                                              try clear hcz23_2
                                              try clear hcz23_3
                                              try clear hcz23_4
                                              try clear hcz23_5
                                              try clear hcz28_0
                                              try clear hcz28_1
                                              try clear hcz28_2
                                              try clear hcz28_3
                                              try clear hcz28_4
                                              try clear hcz28_5
                                              try clear hcz28_6
                                              try clear hcz33_0
                                              try clear hcz33_1
                                              try clear hcz33_2
                                              try clear hcz33_3
                                              try clear hcz33_4
                                              try clear hcz33_5
                                              try clear hcz38_0
                                              try clear hcz38_1
                                              try clear hcz38_2
                                              try clear hcz38_3
                                              try clear hcz38_4
                                              try clear hcz38_5
                                              try clear hcz38_6
                                              try clear hcz43_0
                                              try clear hcz43_1
                                              try clear hcz43_2
                                              try clear hcz43_3
                                              try clear hcz43_4
                                              try clear hcz43_5
                                              try clear hcz49_0
                                              try clear hcz49_1
                                              try clear hcz49_2
                                              try clear hcz49_3
                                              try clear hcz49_4
                                              try clear hcz49_5
                                              try clear hcz49_6
                                              try clear hcz50_0
                                              try clear hcz50_1
                                              try clear hcz50_2
                                              try clear hcz50_3
                                              try clear hcz50_4
                                              try clear hcz50_5
                                              try clear hcz52_0
                                              try clear hcz52_1
                                              try clear hcz52_2
                                              try clear hcz52_3
                                              try clear hcz52_4
                                              try clear hcz52_5
                                              try clear hcz52_6
                                              try clear hcz57_0
                                              try clear hcz57_1
                                              try clear hcz57_2
                                              try clear hcz57_3
                                              try clear hcz57_4
                                              try clear hcz57_5
                                              try clear hcz62_0
                                              try clear hcz62_1
                                              try clear hcz62_2
                                              try clear hcz62_3
                                              try clear hcz62_4
                                              try clear hcz62_5
                                              try clear hcz62_6
                                              try clear hcz63_0
                                              try clear hcz63_1
                                              try clear hcz63_2
                                              try clear hcz63_3
                                              try clear hcz63_4
                                              try clear hcz63_5
                                              try clear hcz65_0
                                              try clear hcz65_1
                                              try clear hcz65_2
                                              try clear hcz65_3
                                              try clear hcz65_4
                                              try clear hcz65_5
                                              try clear hcz65_6
                                              try clear hcz71_0
                                              try clear hcz71_1
                                              try clear hcz71_2
                                              try clear hcz71_3
                                              try clear hcz71_4
                                              try clear hcz71_5
                                              try clear hcz74_0
                                              try clear hcz74_1
                                              try clear hcz74_2
                                              try clear hcz74_3
                                              try clear hcz74_4
                                              try clear hcz74_5
                                              try clear hfz13_0
                                              try clear hfz13_1
                                              try clear hfz13_2
                                              try clear hfz13_3
                                              try clear hfz13_4
                                              try clear hfz13_5
                                              try clear hfz13_6
                                              try clear hfz14_0
                                              try clear hfz14_1
                                              try clear hfz14_2
                                              try clear hfz14_3
                                              try clear hfz14_4
                                              try clear hfz14_5
                                              try clear hfz17_0
                                              try clear hfz17_1
                                              try clear hfz17_2
                                              try clear hfz17_3
                                              try clear hfz17_4
                                              try clear hfz17_5
                                              try clear hfz17_6
                                              try clear hfz23_0
                                              try clear hfz23_1
                                              try clear hfz23_2
                                              try clear hfz23_3
                                              try clear hfz23_4
                                              try clear hfz23_5
                                              try clear hfz28_0
                                              try clear hfz28_1
                                              try clear hfz28_2
                                              try clear hfz28_3
                                              try clear hfz28_4
                                              try clear hfz28_5
                                              try clear hfz28_6
                                              try clear hfz33_0
                                              try clear hfz33_1
                                              try clear hfz33_2
                                              try clear hfz33_3
                                              try clear hfz33_4
                                              try clear hfz33_5
                                              try clear hfz38_0
                                              try clear hfz38_1
                                              try clear hfz38_2
                                              try clear hfz38_3
                                              try clear hfz38_4
                                              try clear hfz38_5
                                              try clear hfz38_6
                                              try clear hfz43_0
                                              try clear hfz43_1
                                              try clear hfz43_2
                                              try clear hfz43_3
                                              try clear hfz43_4
                                              try clear hfz43_5
                                              try clear hfz49_0
                                              try clear hfz49_1
                                              try clear hfz49_2
                                              try clear hfz49_3
                                              try clear hfz49_4
                                              try clear hfz49_5
                                              try clear hfz49_6
                                              try clear hfz50_0
                                              try clear hfz50_1
                                              try clear hfz50_2
                                              try clear hfz50_3
                                              try clear hfz50_4
                                              try clear hfz50_5
                                              try clear hfz52_0
                                              try clear hfz52_1
                                              try clear hfz52_2
                                              try clear hfz52_3
                                              try clear hfz52_4
                                              try clear hfz52_5
                                              try clear hfz52_6
                                              try clear hfz57_0
                                              try clear hfz57_1
                                              try clear hfz57_2
                                              try clear hfz57_3
                                              try clear hfz57_4
                                              try clear hfz57_5
                                              try clear hfz62_0
                                              try clear hfz62_1
                                              try clear hfz62_2
                                              try clear hfz62_3
                                              try clear hfz62_4
                                              try clear hfz62_5
                                              try clear hfz62_6
                                              try clear hfz63_0
                                              try clear hfz63_1
                                              try clear hfz63_2
                                              try clear hfz63_3
                                              try clear hfz63_4
                                              try clear hfz63_5
                                              try clear hfz65_0
                                              try clear hfz65_1
                                              try clear hfz65_2
                                              try clear hfz65_3
                                              try clear hfz65_4
                                              try clear hfz65_5
                                              try clear hfz65_6
                                              try clear hfz71_0
                                              try clear hfz71_1
                                              try clear hfz71_2
                                              try clear hfz71_3
                                              try clear hfz71_4
                                              try clear hfz71_5
                                              try clear hfz74_0
                                              try clear hfz74_1
                                              try clear hfz74_2
                                              try clear hfz74_3
                                              try clear hfz74_4
                                              try clear hfz74_5
                                              try clear hx128_0
                                              try clear hx128_1
                                              try clear hx128_2
                                              try clear hx128_3
                                              try clear hx128_4
                                              try clear hx128_5
                                              try clear hx128_6
                                              try clear p1
                                              try clear p12
                                              try clear p128
                                              try clear p2
                                              try clear q1
                                              try clear q12
                                              try clear q128
                                              try clear q18
                                              obtain ⟨x6_8, x75_8, rfl, HA, HK8, HO_5, HO_6, BK124, BK129, HB⟩ := hrel
                                              cases gk with
                                              | zero => exact absurd HA.out (by simp [ask_Encode.l1])
                                              | succ k8 =>
                                                have H := HA.out
                                                clear HA
                                                simp only [ask_Encode.l1] at H
                                                by_cases c75 : x75_8 < (l0_5.length : Int)
                                                · rw [if_pos c75] at H
                                                  have c75b0 : decide (x75_8 < (l0_5.length : Int)) = true := decide_eq_true c75
                                                  clear c75
                                                  by_cases c76 : 0 ≤ x75_8
                                                  · rw [if_pos c76] at H
                                                    have c76b0 : decide (0 ≤ x75_8) = true := decide_eq_true c76
                                                    clear c76
                                                    by_cases c77 : x75_8 < (l0_5.length : Int)
                                                    · rw [if_pos c77] at H
                                                      have c77b0 : decide (x75_8 < (l0_5.length : Int)) = true := decide_eq_true c77
                                                      clear c77
                                                      obtain ⟨ji78, hji78⟩ : ∃ j_ : Int, ((rd l0_5 x75_8) / 16) = j_ := ⟨_, rfl⟩
                                                      replace H : (if 0 ≤ (ji78) then (if (ji78) < 16 then (if 0 ≤ (Go.bits .and .u8 (rd l0_5 x75_8) 15) then (if (Go.bits .and .u8 (rd l0_5 x75_8) 15) < 16 then ((some (([bt (⟨#[48, 49, 50, 51, 52, 53, 54, 55, 56, 57, 97, 98, 99, 100, 101, 102]⟩ : ByteArray) (ji78), bt (⟨#[48, 49, 50, 51, 52, 53, 54, 55, 56, 57, 97, 98, 99, 100, 101, 102]⟩ : ByteArray) (Go.bits .and .u8 (rd l0_5 x75_8) 15)] : List Int) : List Int)).bind fun y152 => (if x6_8.length + y152.length < 140737488355328 then (ask_Encode.l1 k8 x5_52 (x6_8 ++ y152) l0_5 (l0_5.length : Int) (wrap64 (x75_8 + 1))) else (none))) else (none)) else (none)) else (none)) else (none)) = some r := by first | (rw [hji78] at H; exact H) | (simp only [hji78] at H ⊢; exact H)
                                                      by_cases c79 : 0 ≤ (ji78)
                                                      · rw [if_pos c79] at H
                                                        have c79b0 : decide (0 ≤ (ji78)) = true := decide_eq_true c79
                                                        clear c79
                                                        by_cases c80 : (ji78) < 16
                                                        · rw [if_pos c80] at H
                                                          have c80b0 : decide ((ji78) < 16) = true := decide_eq_true c80
                                                          clear c80
                                                          by_cases c82 : 0 ≤ (Go.bits .and .u8 (rd l0_5 x75_8) 15)
                                                          · rw [if_pos c82] at H
                                                            have c82b0 : decide (0 ≤ (Go.bits .and .u8 (rd l0_5 x75_8) 15)) = true := decide_eq_true c82
                                                            clear c82
                                                            by_cases c83 : (Go.bits .and .u8 (rd l0_5 x75_8) 15) < 16
                                                            · rw [if_pos c83] at H
                                                              have c83b0 : decide ((Go.bits .and .u8 (rd l0_5 x75_8) 15) < 16) = true := decide_eq_true c83
                                                              clear c83
                                                              obtain ⟨y152, hy152⟩ : ∃ y_ : List Int, y_ = (([bt (⟨#[48, 49, 50, 51, 52, 53, 54, 55, 56, 57, 97, 98, 99, 100, 101, 102]⟩ : ByteArray) (ji78), bt (⟨#[48, 49, 50, 51, 52, 53, 54, 55, 56, 57, 97, 98, 99, 100, 101, 102]⟩ : ByteArray) (Go.bits .and .u8 (rd l0_5 x75_8) 15)] : List Int)) := ⟨_, rfl⟩
                                                              replace H : (if x6_8.length + y152.length < 140737488355328 then (ask_Encode.l1 k8 x5_52 (x6_8 ++ y152) l0_5 (l0_5.length : Int) (wrap64 (x75_8 + 1))) else (none)) = some r := by first | (rw [hy152]; with_reducible exact H) | (have H2_ := (Option.bind_some _ _).symm.trans H; rw [hy152]; with_reducible exact H2_) | (have H2_ := (Option.bind_some _ _).symm.trans H; with_reducible exact H2_) | with_reducible exact H | (rw [hy152]; exact H) | exact H
                                                              have Ny152 := Aside0.mk hy152
                                                              clear hy152
                                                              by_cases c85 : x6_8.length + y152.length < 140737488355328
                                                              · rw [if_pos c85] at H
                                                                have LMc85 := Aside0.mk c85
                                                                clear c85
                                                                obtain ⟨y155, hy155⟩ : ∃ y_ : List Int, y_ = (x6_8 ++ y152) := ⟨_, rfl⟩
                                                                replace H : (ask_Encode.l1 k8 x5_52 y155 l0_5 (l0_5.length : Int) (wrap64 (x75_8 + 1))) = some r := by first | (rw [hy155]; with_reducible exact H) | (have H2_ := (Option.bind_some _ _).symm.trans H; rw [hy155]; with_reducible exact H2_) | (have H2_ := (Option.bind_some _ _).symm.trans H; with_reducible exact H2_) | with_reducible exact H | (rw [hy155]; exact H) | exact H
                                                                have Ny155 := Aside0.mk hy155
                                                                clear hy155
                                                                have H' := Aside0.mk H
                                                                clear H
                                                                have p151 : 0 ≤ (x75_8 : Int) := of_decide_eq_true (by first | (with_reducible assumption) | assumption)
                                                                have q151 : x75_8 < (l0_5.length : Int) := of_decide_eq_true (by first | (with_reducible assumption) | assumption)
                                                                obtain ⟨ad151, e151, hx151_0⟩ := Kd.at_int HR0_5.out x75_8 p151 q151
                                                                cases e151
                                                                replace hx151_0 := (HB.out.cell (World.block_lt_of_cell? w _ hx151_0)).trans hx151_0
                                                                replace p151 := eq_true p151
                                                                replace q151 := eq_true q151
                                                                try go_wp2
                                                                have n0_ := Aside0.mk (Kd.R_drew HO_5.out)
                                                                have n1_ := Aside0.mk (Kd.R_drew HO_6.out)
                                                                have n2_ := Aside0.mk (blk_drew BK124.out)
                                                                have n3_ := Aside0.mk (blk_drew BK129.out)
                                                                have n4_ := Aside0.mk (below_drew1 HB.out)
                                                                clear HO_5
                                                                clear HO_6
                                                                clear BK124
                                                                clear BK129
                                                                clear HB
                                                                have HO_5 := n0_
                                                                have HO_6 := n1_
                                                                have BK124 := n2_
                                                                have BK129 := n3_
                                                                have HB := n4_
                                                                clear n0_ n1_ n2_ n3_ n4_
                                                                have p81 : 0 ≤ ((ji78) : Int) := of_decide_eq_true (by first | (with_reducible assumption) | assumption)
                                                                have q81 : (ji78) < (16 : Int) := of_decide_eq_true (by first | (with_reducible assumption) | assumption)
                                                                have hx81 := bt_at (⟨#[48, 49, 50, 51, 52, 53, 54, 55, 56, 57, 97, 98, 99, 100, 101, 102]⟩ : ByteArray) (ji78)
                                                                replace p81 := eq_true p81
                                                                replace q81 := eq_true q81
                                                                have p84 : 0 ≤ ((Go.bits .and .u8 (rd l0_5 x75_8) 15) : Int) := of_decide_eq_true (by first | (with_reducible assumption) | assumption)
                                                                have q84 : (Go.bits .and .u8 (rd l0_5 x75_8) 15) < (16 : Int) := of_decide_eq_true (by first | (with_reducible assumption) | assumption)
                                                                have hx84 := bt_at (⟨#[48, 49, 50, 51, 52, 53, 54, 55, 56, 57, 97, 98, 99, 100, 101, 102]⟩ : ByteArray) (Go.bits .and .u8 (rd l0_5 x75_8) 15)
                                                                replace p84 := eq_true p84
                                                                replace q84 := eq_true q84
                                                                refine start_ (n := 10) (S := fun w' => True) (ds := []) #[false, false, false, false, false, false, false, false, false, false] (by kernel_rfl) rfl rfl trivial (fun hHeld => ?_); refine with_tabW ask_Encode.tab19 ask_Encode.bits19 (fun HT_ HW_ => ?_)
                                                                generalize wr.drew = w86 at HO_5 HO_6 BK124 BK129 HB hHeld ⊢
                                                                refine pure_ (i := 0) (N := some 79) (v := ?_) (a' := ?_) #[true, false, false, false, false, false, false, false, false, false] rfl rfl (any_of HT_.out (by kernel_rfl)) (fun _ _ _ h => h) (Or.inl ⟨by rfl, ?_⟩) ?_ ?_
                                                                rotate_left
                                                                · intro w'
                                                                  go_simp
                                                                  with_reducible rfl
                                                                rotate_left
                                                                · simp only [Act.put, List.setIfInBounds_toArray, List.set_cons_zero, List.set_cons_succ, i64_w, i32_w]
                                                                  rfl
                                                                refine pure_ (i := 1) (N := some 80) (v := ?_) (a' := ?_) #[true, true, false, false, false, false, false, false, false, false] rfl rfl (any_of HT_.out (by kernel_rfl)) (fun _ _ _ h => h) (Or.inl ⟨by rfl, ?_⟩) ?_ ?_
                                                                rotate_left
                                                                · intro w'
                                                                  go_simp
                                                                  with_reducible rfl
                                                                rotate_left
                                                                · simp only [Act.put, List.setIfInBounds_toArray, List.set_cons_zero, List.set_cons_succ, i64_w, i32_w]
                                                                  rfl
                                                                refine pure_ (i := 2) (N := some 81) (v := ?_) (a' := ?_) #[true, true, true, false, false, false, false, false, false, false] rfl rfl (any_of HT_.out (by kernel_rfl)) (fun _ _ _ h => h) (Or.inl ⟨by rfl, ?_⟩) ?_ ?_
                                                                rotate_left
                                                                · intro w'
                                                                  go_simp
                                                                  with_reducible rfl
                                                                rotate_left
                                                                · simp only [Act.put, List.setIfInBounds_toArray, List.set_cons_zero, List.set_cons_succ, i64_w, i32_w]
                                                                  rfl
                                                                refine pure_ (i := 4) (N := some 83) (v := ?_) (a' := ?_) #[true, true, true, false, true, false, false, false, false, false] rfl rfl (any_of HT_.out (by kernel_rfl)) (fun _ _ _ h => h) (Or.inl ⟨by rfl, ?_⟩) ?_ ?_
                                                                rotate_left
                                                                · intro w'
                                                                  go_simp
                                                                  with_reducible rfl
                                                                rotate_left
                                                                · simp only [Act.put, List.setIfInBounds_toArray, List.set_cons_zero, List.set_cons_succ, i64_w, i32_w]
                                                                  rfl
                                                                refine pure_ (i := 5) (N := some 84) (v := ?_) (a' := ?_) #[true, true, true, false, true, true, false, false, false, false] rfl rfl (any_of HT_.out (by kernel_rfl)) (fun _ _ _ h => h) (Or.inl ⟨by rfl, ?_⟩) ?_ ?_
                                                                rotate_left
                                                                · intro w'
                                                                  go_simp
                                                                  with_reducible rfl
                                                                rotate_left
                                                                · simp only [Act.put, List.setIfInBounds_toArray, List.set_cons_zero, List.set_cons_succ, i64_w, i32_w]
                                                                  rfl
                                                                refine take_ (i := 3) (N := some 82) (v := ?_) (a' := ?_) #[true, true, true, true, true, true, false, false, false, false] rfl rfl (take_ofW HT_.out HW_.out (by kernel_rfl)) (fun _ _ _ h => h) (Or.inl ⟨by rfl, ?_⟩) hHeld ?_ ?_
                                                                rotate_left
                                                                · intro w' _
                                                                  go_simp
                                                                  with_reducible rfl
                                                                rotate_left
                                                                · simp only [Act.put, List.setIfInBounds_toArray, List.set_cons_zero, List.set_cons_succ, i64_w, i32_w]
                                                                  rfl
                                                                refine take_ (i := 6) (N := some 85) (v := ?_) (a' := ?_) #[true, true, true, true, true, true, true, false, false, false] rfl rfl (take_ofW HT_.out HW_.out (by kernel_rfl)) (fun _ _ _ h => h) (Or.inl ⟨by rfl, ?_⟩) hHeld ?_ ?_
                                                                rotate_left
                                                                · intro w' _
                                                                  go_simp
                                                                  with_reducible rfl
                                                                rotate_left
                                                                · simp only [Act.put, List.setIfInBounds_toArray, List.set_cons_zero, List.set_cons_succ, i64_w, i32_w]
                                                                  rfl
                                                                refine one_ (i := 7) (N := some 86) #[true, true, true, true, true, true, true, true, false, false] rfl rfl (one_of HT_.out (by kernel_rfl)) (by decide) (fun K hK => ?_)
                                                                refine Kd.R_lit_step (Kd.int .u8) _ 5 ?hg (N := 86) ?hd (xs := ([bt (⟨#[48, 49, 50, 51, 52, 53, 54, 55, 56, 57, 97, 98, 99, 100, 101, 102]⟩ : ByteArray) (ji78), bt (⟨#[48, 49, 50, 51, 52, 53, 54, 55, 56, 57, 97, 98, 99, 100, 101, 102]⟩ : ByteArray) (Go.bits .and .u8 (rd l0_5 x75_8) 15)] : List Int)) (inner := [.int .u8 (bt (⟨#[48, 49, 50, 51, 52, 53, 54, 55, 56, 57, 97, 98, 99, 100, 101, 102]⟩ : ByteArray) (ji78)), .int .u8 (bt (⟨#[48, 49, 50, 51, 52, 53, 54, 55, 56, 57, 97, 98, 99, 100, 101, 102]⟩ : ByteArray) (Go.bits .and .u8 (rd l0_5 x75_8) 15))]) (ok := fun _ => True) (okp := fun _ => True) ?hr ?hp (fun _ hk => hk) trivial (Below.refl _ _) (Nat.le_refl _) (by simp) ?_; (case hd => rfl); (case hg => rfl); (case hr => first | (go_simp; done) | (go_simp; rfl)); (case hp => exact (Reps.one (show Kd.M (Kd.int .u8) _ _ _ (bt (⟨#[48, 49, 50, 51, 52, 53, 54, 55, 56, 57, 97, 98, 99, 100, 101, 102]⟩ : ByteArray) (ji78)) [.int .u8 (bt (⟨#[48, 49, 50, 51, 52, 53, 54, 55, 56, 57, 97, 98, 99, 100, 101, 102]⟩ : ByteArray) (ji78))] from rfl) (Reps.one (show Kd.M (Kd.int .u8) _ _ _ (bt (⟨#[48, 49, 50, 51, 52, 53, 54, 55, 56, 57, 97, 98, 99, 100, 101, 102]⟩ : ByteArray) (Go.bits .and .u8 (rd l0_5 x75_8) 15)) [.int .u8 (bt (⟨#[48, 49, 50, 51, 52, 53, 54, 55, 56, 57, 97, 98, 99, 100, 101, 102]⟩ : ByteArray) (Go.bits .and .u8 (rd l0_5 x75_8) 15))] from rfl) (Reps.none _ _))))
                                                                intro v153 w87 ho88 hb hg_ hnew_
                                                                clear hg_ hnew_
                                                                (first | rw [← Ny152.out] at ho88 | (simp only [Int.reduceToNat] at ho88; rw [← Ny152.out] at ho88))
                                                                have n0_ := Aside0.mk (Kd.R_below (by (with_reducible repeat (first | apply Kd.R_alloc | apply Kd.R_drewN | apply Kd.R_drew)); exact HO_5.out) hb)
                                                                have n1_ := Aside0.mk (Kd.R_elder' (by (with_reducible repeat (first | apply Kd.R_alloc | apply Kd.R_drewN | apply Kd.R_drew)); exact HO_6.out) (Kd.R_base ho88) hb)
                                                                have n2_ := Aside0.mk (Kd.R_lower (Kd.R_new' ho88 (Kd.R_lt (by (with_reducible repeat (first | apply Kd.R_alloc | apply Kd.R_drewN | apply Kd.R_drew)); exact HO_6.out))) (below_size (by repeat (first | (with_reducible first | exact HB.out | apply below_alloc | apply pw_below_drewN | apply below_drew1 | refine below_set ?_ GE124.out | refine below_set ?_ GE129.out) | exact HB.out))))
                                                                have n3_ := Aside0.mk (blk_below (g := gb124) (o := .cells #[.int .i64 a0_0, .int .i64 a0_1, .int .i64 a0_2, .int .i64 a0_3, .string a0_4, .slice (some ad151) l0_5.length c0_5] 25 (0, 0)) (by (with_reducible repeat (first | refine blk_drewN ?_ _ | refine blk_drew ?_ | refine blk_alloc ?_ _)); exact BK124.out) hb)
                                                                have n4_ := Aside0.mk (blk_below (g := gb129) (o := .cells #[.string ((rd_T47 t125 x11_1).f0), .int .i64 ((rd_T47 t125 x11_1).f1), .bool ((rd_T47 t125 x11_1).f2), .bool ((rd_T47 t125 x11_1).f3), .bool ((rd_T47 t125 x11_1).f4), .bool ((rd_T47 t125 x11_1).f5), .bool ((rd_T47 t125 x11_1).f6)] 47 (0, 0)) (by (with_reducible repeat (first | refine blk_drewN ?_ _ | refine blk_drew ?_ | refine blk_alloc ?_ _)); exact BK129.out) hb)
                                                                have n5_ := Aside0.mk (below_step (by repeat (first | (with_reducible first | exact HB.out | apply below_alloc | apply pw_below_drewN | apply below_drew1 | refine below_set ?_ GE124.out | refine below_set ?_ GE129.out) | exact HB.out)) hb)
                                                                clear HO_5
                                                                clear HO_6
                                                                clear BK124
                                                                clear BK129
                                                                clear HB
                                                                have HO_5 := n0_
                                                                have HO_6 := n1_
                                                                have HO154 := n2_
                                                                have BK124 := n3_
                                                                have BK129 := n4_
                                                                have HB := n5_
                                                                clear n0_ n1_ n2_ n3_ n4_ n5_
                                                                clear hb ho88
                                                                obtain ⟨Ao90, co90, eo90⟩ := Kd.R_slice HO154.out
                                                                (first | subst eo90 | (injection eo90 with f1_ f2_ f3_; have f4_ := f1_.symm; have f5_ := f3_.symm; clear f1_ f2_ f3_; subst f4_; subst f5_))
                                                                refine hK.out _ _ trivial (fun hHeld => ?_)
                                                                clear hK K
                                                                refine norm_ (a' := ?_) ?_ ?_
                                                                rotate_left
                                                                · show Act.put _ (some 86) _ = _
                                                                  simp only [Act.put, List.setIfInBounds_toArray, List.set_cons_zero, List.set_cons_succ, i64_w, i32_w]
                                                                  rfl
                                                                refine one_ (i := 8) (N := some 87) #[true, true, true, true, true, true, true, true, true, false] rfl rfl (one_of HT_.out (by kernel_rfl)) (by decide) (fun K hK => ?_)
                                                                refine Kd.R_append_rows_step (Kd.int .u8) (w0 := w) w.heap.size (by rfl) (.tmp 79) (.tmp 86) 23 5 (.int .u8 0) 1 rfl Tryd.underlying23 info5 rfl (by decide) (by omega) u6 x6_8 y152 _ _ _ (fun k_ => some k_ ≠ (.slice Ao90 y152.length co90 : Value).ownBlock) (fun _ => False) rfl rfl ?aO ?aR (fun _ _ h => h) (fun _ h => h.elim) ?aF ?aB ?aS ?aL ?_
                                                                (case aR => repeat (first | exact (Kd.R_reads' HO154.out).2.2 | (with_reducible refine Kd.C_alloc ?_ _) | (with_reducible refine Kd.C_drewN ?_ _) | (with_reducible refine Kd.C_drew ?_)))
                                                                (case aB => exact (by repeat (first | (with_reducible first | exact HB.out | apply below_alloc | apply pw_below_drewN | apply below_drew1 | refine below_set ?_ GE124.out | refine below_set ?_ GE129.out) | exact HB.out)))
                                                                (case aF => exact (fun k_ hk => Kd.fresh' (Kd.R_lt (by (with_reducible repeat (first | apply Kd.R_alloc | apply Kd.R_drewN | apply Kd.R_drew)); exact HO154.out)) k_ hk))
                                                                (case aO => exact (by (with_reducible repeat (first | apply Kd.R_alloc | apply Kd.R_drewN | apply Kd.R_drew)); exact Kd.R_mono HO_6.out (fun _ hk => hk.2)))
                                                                (case aS => exact (below_size (by repeat (first | (with_reducible first | exact HB.out | apply below_alloc | apply pw_below_drewN | apply below_drew1 | refine below_set ?_ GE124.out | refine below_set ?_ GE129.out) | exact HB.out))))
                                                                (case aL => have := LMc85.out; omega)
                                                                intro v156 w89 ho hb hg hat
                                                                rw [← Ny155.out] at ho
                                                                have n0_ := Aside0.mk (Kd.R_over' (by (with_reducible repeat (first | apply Kd.R_alloc | apply Kd.R_drewN | apply Kd.R_drew)); exact HO_5.out) (Kd.R_typed (by (with_reducible repeat (first | apply Kd.R_alloc | apply Kd.R_drewN | apply Kd.R_drew)); exact HO_6.out)) (by decide) hg)
                                                                have n1_ := Aside0.mk (blk_grown (g := gb124) (o := .cells #[.int .i64 a0_0, .int .i64 a0_1, .int .i64 a0_2, .int .i64 a0_3, .string a0_4, .slice (some ad151) l0_5.length c0_5] 25 (0, 0)) (by (with_reducible repeat (first | refine blk_drewN ?_ _ | refine blk_drew ?_ | refine blk_alloc ?_ _)); exact BK124.out) hg (Kd.R_ne HO_6.out BK124.out (by decide)))
                                                                have n2_ := Aside0.mk (blk_grown (g := gb129) (o := .cells #[.string ((rd_T47 t125 x11_1).f0), .int .i64 ((rd_T47 t125 x11_1).f1), .bool ((rd_T47 t125 x11_1).f2), .bool ((rd_T47 t125 x11_1).f3), .bool ((rd_T47 t125 x11_1).f4), .bool ((rd_T47 t125 x11_1).f5), .bool ((rd_T47 t125 x11_1).f6)] 47 (0, 0)) (by (with_reducible repeat (first | refine blk_drewN ?_ _ | refine blk_drew ?_ | refine blk_alloc ?_ _)); exact BK129.out) hg (Kd.R_ne HO_6.out BK129.out (by decide)))
                                                                have n3_ := Aside0.mk (Kd.R_after (ok := (fun _ => True)) (by (with_reducible repeat (first | apply Kd.R_alloc | apply Kd.R_drewN | apply Kd.R_drew)); exact HO154.out) hg hat)
                                                                have n4_ := Aside0.mk (hb)
                                                                have n5_ := Aside0.mk (ho)
                                                                clear HO_5
                                                                clear BK124
                                                                clear BK129
                                                                clear HO154
                                                                clear HB
                                                                clear HO_6
                                                                have HO_5 := n0_
                                                                have BK124 := n1_
                                                                have BK129 := n2_
                                                                have HO154 := n3_
                                                                have HB := n4_
                                                                have HO157 := n5_
                                                                clear n0_ n1_ n2_ n3_ n4_ n5_
                                                                clear ho hb hg hat
                                                                refine hK.out _ _ trivial (fun hHeld => ?_)
                                                                clear hK K
                                                                refine norm_ (a' := ?_) ?_ ?_
                                                                rotate_left
                                                                · show Act.put _ (some 87) _ = _
                                                                  simp only [Act.put, List.setIfInBounds_toArray, List.set_cons_zero, List.set_cons_succ, i64_w, i32_w]
                                                                  rfl
                                                                refine pure_ (i := 9) (N := some 6) (v := ?_) (a' := ?_) #[true, true, true, true, true, true, true, true, true, true] rfl rfl (any_of HT_.out (by kernel_rfl)) (fun _ _ _ h => h) (Or.inl ⟨by rfl, ?_⟩) ?_ ?_
                                                                rotate_left
                                                                · intro w'
                                                                  go_simp
                                                                  with_reducible rfl
                                                                rotate_left
                                                                · simp only [Act.put, List.setIfInBounds_toArray, List.set_cons_zero, List.set_cons_succ, i64_w, i32_w]
                                                                  rfl
                                                                refine done_ (done_of HT_.out (by kernel_rfl)) ?_
                                                                try go_wp2
                                                                go_roundg k8
                                                                case measure => have := HK1.out; have := HJ9.out; have := HJ25.out; have := HJ35.out; have := HJ45.out; have := HJ52.out; have := HJ58.out; have := HK8.out; omega
                                                                case rel => exact ⟨(y155), (wrap64 (x75_8 + 1)), (by first | rfl | (simp; done) | (simp; exact (fun l_ : List UInt8 => (by cases l_ <;> rfl : l_.isEmpty = !(l_ != []))) _) | (simp [*]; done)), H', ⟨by have := HK1.out; have := HJ9.out; have := HJ25.out; have := HJ35.out; have := HJ45.out; have := HJ52.out; have := HJ58.out; have := HK8.out; omega⟩, ⟨by (with_reducible repeat (first | apply Kd.R_alloc | apply Kd.R_drewN | apply Kd.R_drew)); exact HO_5.out⟩, ⟨by (with_reducible repeat (first | apply Kd.R_alloc | apply Kd.R_drewN | apply Kd.R_drew)); exact Kd.R_mono HO157.out (fun _ hk => trivial)⟩, ⟨by (with_reducible repeat (first | refine blk_drewN ?_ _ | refine blk_drew ?_ | refine blk_alloc ?_ _)); exact BK124.out⟩, ⟨by (with_reducible repeat (first | refine blk_drewN ?_ _ | refine blk_drew ?_ | refine blk_alloc ?_ _)); exact BK129.out⟩, ⟨by repeat (first | (with_reducible first | exact HB.out | apply below_alloc | apply pw_below_drewN | apply below_drew1 | refine below_set ?_ GE124.out | refine below_set ?_ GE129.out) | exact HB.out)⟩⟩
                                                              · rw [if_neg c85] at H
                                                                exact absurd H (by simp)
                                                            · rw [if_neg c83] at H
                                                              exact absurd H (by simp)
                                                          · rw [if_neg c82] at H
                                                            exact absurd H (by simp)
                                                        · rw [if_neg c80] at H
                                                          exact absurd H (by simp)
                                                      · rw [if_neg c79] at H
                                                        exact absurd H (by simp)
                                                    · rw [if_neg c77] at H
                                                      exact absurd H (by simp)
                                                  · rw [if_neg c76] at H
                                                    exact absurd H (by simp)
                                                · rw [if_neg c75] at H
                                                  have c75b0 : decide (x75_8 < (l0_5.length : Int)) = false := decide_eq_false c75
                                                  clear c75
                                                  by_cases c91 : x5_52.length < 8796093022208
                                                  · rw [if_pos c91] at H
                                                    have LMc91 := Aside0.mk c91
                                                    clear c91
                                                    obtain ⟨y158, hy158⟩ : ∃ y_ : List ByteArray, y_ = (x5_52 ++ [strOfNums x6_8]) := ⟨_, rfl⟩
                                                    replace H : ((strings_Join.f y158 (⟨#[32]⟩ : ByteArray)).bind fun t161 => (some t161)) = some r := by first | (rw [hy158]; with_reducible exact H) | (have H2_ := (Option.bind_some _ _).symm.trans H; rw [hy158]; with_reducible exact H2_) | (have H2_ := (Option.bind_some _ _).symm.trans H; with_reducible exact H2_) | with_reducible exact H | (rw [hy158]; exact H) | exact H
                                                    have Ny158 := Aside0.mk hy158
                                                    clear hy158
                                                    replace H := Option.bind_eq_some_iff.mp H
                                                    obtain ⟨t161, A920, H⟩ := H
                                                    replace H : (some t161) = some r := H
                                                    have A92 := Aside0.mk A920
                                                    clear A920
                                                    obtain rfl := Option.some.inj H
                                                    have hcv93 := own_string (P := Tryd.prog) Tryd.underlying23 Tryd.underlying5 Tryd.underlying9 (Kd.own_of_R HO_6.out)
                                                    have hcv94 := r_string_d (P := Tryd.prog) Tryd.underlying23 Tryd.underlying5 Tryd.underlying9 HO_6.out
                                                    (try (have hcv95 := fun u0_ u1_ u2_ u3_ u4_ u5_ => own_string (P := Tryd.prog) Tryd.underlying23 Tryd.underlying5 Tryd.underlying9 (ownsRow_setCell_other (a := ⟨gb124, 5, none⟩) (ownsRow_setCell_other (a := ⟨gb124, 4, none⟩) (ownsRow_setCell_other (a := ⟨gb124, 3, none⟩) (ownsRow_setCell_other (a := ⟨gb124, 2, none⟩) (ownsRow_setCell_other (a := ⟨gb124, 1, none⟩) (ownsRow_setCell_other (a := ⟨gb124, 0, none⟩) (Kd.own_of_R HO_6.out) (Ne.symm (Kd.R_ne HO_6.out BK124.out (by decide))) u0_) (Ne.symm (Kd.R_ne HO_6.out BK124.out (by decide))) u1_) (Ne.symm (Kd.R_ne HO_6.out BK124.out (by decide))) u2_) (Ne.symm (Kd.R_ne HO_6.out BK124.out (by decide))) u3_) (Ne.symm (Kd.R_ne HO_6.out BK124.out (by decide))) u4_) (Ne.symm (Kd.R_ne HO_6.out BK124.out (by decide))) u5_)))
                                                    (try (have hcv96 := fun u0_ u1_ u2_ u3_ u4_ u5_ u6_ => own_string (P := Tryd.prog) Tryd.underlying23 Tryd.underlying5 Tryd.underlying9 (ownsRow_setCell_other (a := ⟨gb129, 6, none⟩) (ownsRow_setCell_other (a := ⟨gb129, 5, none⟩) (ownsRow_setCell_other (a := ⟨gb129, 4, none⟩) (ownsRow_setCell_other (a := ⟨gb129, 3, none⟩) (ownsRow_setCell_other (a := ⟨gb129, 2, none⟩) (ownsRow_setCell_other (a := ⟨gb129, 1, none⟩) (ownsRow_setCell_other (a := ⟨gb129, 0, none⟩) (Kd.own_of_R HO_6.out) (Ne.symm (Kd.R_ne HO_6.out BK129.out (by decide))) u0_) (Ne.symm (Kd.R_ne HO_6.out BK129.out (by decide))) u1_) (Ne.symm (Kd.R_ne HO_6.out BK129.out (by decide))) u2_) (Ne.symm (Kd.R_ne HO_6.out BK129.out (by decide))) u3_) (Ne.symm (Kd.R_ne HO_6.out BK129.out (by decide))) u4_) (Ne.symm (Kd.R_ne HO_6.out BK129.out (by decide))) u5_) (Ne.symm (Kd.R_ne HO_6.out BK129.out (by decide))) u6_)))
                                                    go_wp2_with (first | ((with_reducible refine gate_builtin (b := .append) (xs := #[.tmp 89, .tmp 92]) rfl ?_); (try (refine gate_guard (by rfl) ?_; dsimp only)); at_builtin; refine Kd.R_append Kd.string (w0 := w) w.heap.size rfl (.tmp 89) (.tmp 92) 48 9 (.string ⟨#[]⟩) 16 rfl Tryd.underlying48 info9 rfl (by decide) (by omega) u5 x5_52 (strOfNums x6_8) [.string (strOfNums x6_8)] (fun _ => True) (fun _ => False) rfl rfl ?aP (fun _ hk => hk.elim) ?aF ?aO ?aB ?aS ?aL ?_; (case aP => exact rfl); (case aB => exact (by repeat (first | (with_reducible first | exact HB.out | apply below_alloc | apply pw_below_drewN | apply below_drew1 | refine below_set ?_ GE124.out | refine below_set ?_ GE129.out) | exact HB.out))); (case aF => exact (fun _ _ => trivial)); (case aO => exact (by (with_reducible repeat (first | apply Kd.R_alloc | apply Kd.R_drewN | apply Kd.R_drew)); exact HO_5.out)); (case aS => exact (below_size (by repeat (first | (with_reducible first | exact HB.out | apply below_alloc | apply pw_below_drewN | apply below_drew1 | refine below_set ?_ GE124.out | refine below_set ?_ GE129.out) | exact HB.out)))); (case aL => have := LMc91.out; omega); intro v159 w97 ho hb hg hat; rw [← Ny158.out] at ho; have n0_ := Aside0.mk (Kd.R_over' (by (with_reducible repeat (first | apply Kd.R_alloc | apply Kd.R_drewN | apply Kd.R_drew)); exact HO_6.out) (Kd.R_typed (by (with_reducible repeat (first | apply Kd.R_alloc | apply Kd.R_drewN | apply Kd.R_drew)); exact HO_5.out)) (by decide) hg); have n1_ := Aside0.mk (blk_grown (g := gb124) (o := .cells #[.int .i64 a0_0, .int .i64 a0_1, .int .i64 a0_2, .int .i64 a0_3, .string a0_4, .slice A0_5 l0_5.length c0_5] 25 (0, 0)) (by (with_reducible repeat (first | refine blk_drewN ?_ _ | refine blk_drew ?_ | refine blk_alloc ?_ _)); exact BK124.out) hg (Kd.R_ne HO_5.out BK124.out (by decide))); have n2_ := Aside0.mk (blk_grown (g := gb129) (o := .cells #[.string ((rd_T47 t125 x11_1).f0), .int .i64 ((rd_T47 t125 x11_1).f1), .bool ((rd_T47 t125 x11_1).f2), .bool ((rd_T47 t125 x11_1).f3), .bool ((rd_T47 t125 x11_1).f4), .bool ((rd_T47 t125 x11_1).f5), .bool ((rd_T47 t125 x11_1).f6)] 47 (0, 0)) (by (with_reducible repeat (first | refine blk_drewN ?_ _ | refine blk_drew ?_ | refine blk_alloc ?_ _)); exact BK129.out) hg (Kd.R_ne HO_5.out BK129.out (by decide))); have n3_ := Aside0.mk (hb); have n4_ := Aside0.mk (ho); clear HO_6; clear BK124; clear BK129; clear HB; clear HO_5; have HO_6 := n0_; have BK124 := n1_; have BK129 := n2_; have HB := n3_; have HO160 := n4_; clear n0_ n1_ n2_ n3_ n4_; clear ho hb hg hat; obtain ⟨Ao98, co98, eo98⟩ := Kd.R_slice HO160.out; subst eo98) | ((with_reducible refine gate_callee (f := 21) rfl ?_); refine goesL_ (some 95) rfl rfl Tryd.func21 (by kernel_rfl) rfl #[.slice Ao98 y158.length co98, .string (⟨#[32]⟩ : ByteArray)] rfl (by (try simp only [List.map_toArray, List.map_cons, List.map_nil]); first | done | rfl | (simp only [List.length_drop, List.length_take]; rfl)) ?_; (with_reducible refine (strings_Join.calls _ _ y158 (⟨#[32]⟩ : ByteArray) t161 _ ?side1 ?side2 A92.out).mono ?_); (case side1 => repeat (first | exact (Kd.R_reads' HO160.out).2.2 | (with_reducible refine Kd.C_alloc ?_ _) | (with_reducible refine Kd.C_drewN ?_ _) | (with_reducible refine Kd.C_drew ?_))); (case side2 => exact (Kd.R_reads' HO160.out).2.1); rintro e w99 ⟨rfl, hb⟩; refine ⟨_, rfl, ?_⟩; have n0_ := Aside0.mk (Kd.R_below (by (with_reducible repeat (first | apply Kd.R_alloc | apply Kd.R_drewN | apply Kd.R_drew)); exact HO_6.out) hb); have n1_ := Aside0.mk (Kd.R_below (by (with_reducible repeat (first | apply Kd.R_alloc | apply Kd.R_drewN | apply Kd.R_drew)); exact HO160.out) hb); have n2_ := Aside0.mk (blk_below (g := gb124) (o := .cells #[.int .i64 a0_0, .int .i64 a0_1, .int .i64 a0_2, .int .i64 a0_3, .string a0_4, .slice A0_5 l0_5.length c0_5] 25 (0, 0)) (by (with_reducible repeat (first | refine blk_drewN ?_ _ | refine blk_drew ?_ | refine blk_alloc ?_ _)); exact BK124.out) hb); have n3_ := Aside0.mk (blk_below (g := gb129) (o := .cells #[.string ((rd_T47 t125 x11_1).f0), .int .i64 ((rd_T47 t125 x11_1).f1), .bool ((rd_T47 t125 x11_1).f2), .bool ((rd_T47 t125 x11_1).f3), .bool ((rd_T47 t125 x11_1).f4), .bool ((rd_T47 t125 x11_1).f5), .bool ((rd_T47 t125 x11_1).f6)] 47 (0, 0)) (by (with_reducible repeat (first | refine blk_drewN ?_ _ | refine blk_drew ?_ | refine blk_alloc ?_ _)); exact BK129.out) hb); have n4_ := Aside0.mk (below_step (by repeat (first | (with_reducible first | exact HB.out | apply below_alloc | apply pw_below_drewN | apply below_drew1 | refine below_set ?_ GE124.out | refine below_set ?_ GE129.out) | exact HB.out)) hb); clear HO_6; clear HO160; clear BK124; clear BK129; clear HB; have HO_6 := n0_; have HO160 := n1_; have BK124 := n2_; have BK129 := n3_; have HB := n4_; clear n0_ n1_ n2_ n3_ n4_; (try clear hb); (try clear hb2); (try clear hk); (try clear hi)))
                                                    go_ret
                                                    exact ⟨by first | rfl | (simp [errW_none, errW_some] <;> rfl) | (simp only [← hji67]; first | rfl | (simp [errW_none, errW_some] <;> rfl)) | (simp [*, errW_none, errW_some] <;> rfl), by repeat (first | (with_reducible first | exact HB.out | apply below_alloc | apply pw_below_drewN | apply below_drew1 | refine below_set ?_ GE124.out | refine below_set ?_ GE129.out) | exact HB.out)⟩
                                                  · rw [if_neg c91] at H
                                                    exact absurd H (by simp)
                                          · rw [if_neg c69] at H
                                            exact absurd H (by simp)
                                        · rw [if_neg c68] at H
                                          exact absurd H (by simp)
                                      · replace c66 := Bool.eq_false_iff.mpr c66
                                        subst c66
                                        have H1 : ((strings_Join.f x5_52 (⟨#[32]⟩ : ByteArray)).bind fun t162 => (some t162)) = some r := by rw [if_neg (show ¬ (false = true) by decide)] at H; exact H
                                        clear H
                                        have H := H1
                                        clear H1
                                        replace H := Option.bind_eq_some_iff.mp H
                                        obtain ⟨t162, A1000, H⟩ := H
                                        replace H : (some t162) = some r := H
                                        have A100 := Aside0.mk A1000
                                        clear A1000
                                        obtain rfl := Option.some.inj H
                                        obtain ⟨Ao101, co101, eo101⟩ := Kd.R_slice HO_5.out
                                        subst eo101
                                        go_wp2_with (first | ((with_reducible refine gate_callee (f := 21) rfl ?_); refine goesL_ (some 95) rfl rfl Tryd.func21 (by kernel_rfl) rfl #[.slice Ao101 x5_52.length co101, .string (⟨#[32]⟩ : ByteArray)] rfl (by (try simp only [List.map_toArray, List.map_cons, List.map_nil]); first | done | rfl | (simp only [List.length_drop, List.length_take]; rfl)) ?_; (with_reducible refine (strings_Join.calls _ _ x5_52 (⟨#[32]⟩ : ByteArray) t162 _ ?side1 ?side2 A100.out).mono ?_); (case side1 => repeat (first | exact (Kd.R_reads' HO_5.out).2.2 | (with_reducible refine Kd.C_alloc ?_ _) | (with_reducible refine Kd.C_drewN ?_ _) | (with_reducible refine Kd.C_drew ?_))); (case side2 => exact (Kd.R_reads' HO_5.out).2.1); rintro e w102 ⟨rfl, hb⟩; refine ⟨_, rfl, ?_⟩; have n0_ := Aside0.mk (Kd.R_below (by (with_reducible repeat (first | apply Kd.R_alloc | apply Kd.R_drewN | apply Kd.R_drew)); exact HO_5.out) hb); have n1_ := Aside0.mk (blk_below (g := gb124) (o := .cells #[.int .i64 a0_0, .int .i64 a0_1, .int .i64 a0_2, .int .i64 a0_3, .string a0_4, .slice A0_5 l0_5.length c0_5] 25 (0, 0)) (by (with_reducible repeat (first | refine blk_drewN ?_ _ | refine blk_drew ?_ | refine blk_alloc ?_ _)); exact BK124.out) hb); have n2_ := Aside0.mk (blk_below (g := gb129) (o := .cells #[.string ((rd_T47 t125 x11_1).f0), .int .i64 ((rd_T47 t125 x11_1).f1), .bool ((rd_T47 t125 x11_1).f2), .bool ((rd_T47 t125 x11_1).f3), .bool ((rd_T47 t125 x11_1).f4), .bool ((rd_T47 t125 x11_1).f5), .bool ((rd_T47 t125 x11_1).f6)] 47 (0, 0)) (by (with_reducible repeat (first | refine blk_drewN ?_ _ | refine blk_drew ?_ | refine blk_alloc ?_ _)); exact BK129.out) hb); have n3_ := Aside0.mk (below_step (by repeat (first | (with_reducible first | exact HB.out | apply below_alloc | apply pw_below_drewN | apply below_drew1 | refine below_set ?_ GE124.out | refine below_set ?_ GE129.out) | exact HB.out)) hb); clear HO_5; clear BK124; clear BK129; clear HB; have HO_5 := n0_; have BK124 := n1_; have BK129 := n2_; have HB := n3_; clear n0_ n1_ n2_ n3_; (try clear hb); (try clear hb2); (try clear hk); (try clear hi)))
                                        go_ret
                                        exact ⟨by first | rfl | (simp [errW_none, errW_some] <;> rfl) | (simp [*, errW_none, errW_some] <;> rfl), by repeat (first | (with_reducible first | exact HB.out | apply below_alloc | apply pw_below_drewN | apply below_drew1 | refine below_set ?_ GE124.out | refine below_set ?_ GE129.out) | exact HB.out)⟩
            · rw [if_neg c9] at H
              have c9b0 : (((rd_T47 t125 x11_1).f1) == a0_0) = false := beq_eq_false_iff_ne.mpr c9
              have c9b1 : (((rd_T47 t125 x11_1).f1) != a0_0) = true := bne_iff_ne.mpr c9
              have H' := Aside0.mk H
              clear H
              have p128 : 0 ≤ (x11_1 : Int) := of_decide_eq_true (by first | (with_reducible assumption) | assumption)
              have q128 : x11_1 < (t125.length : Int) := of_decide_eq_true (by first | (with_reducible assumption) | assumption)
              obtain ⟨ad128, e128, hx128_0, hx128_1, hx128_2, hx128_3, hx128_4, hx128_5, hx128_6⟩ := at_T47 (Kd.R_reads' HO_9.out).2.2 x11_1 p128 q128
              cases e128
              replace p128 := eq_true p128
              replace q128 := eq_true q128
              go_wp2_with (first | ((with_reducible refine gate_dst (N := 4) rfl ?_); (try (refine gate_guard (by rfl) ?_; dsimp only)); refine box_event ?hg (N := 4) ?hd (cs := #[.string (⟨#[]⟩ : ByteArray), .int .i64 0, .bool false, .bool false, .bool false, .bool false, .bool false]) (t := 47) ?hr ?_; (case hd => rfl); (case hg => rfl); (case hr => first | (go_simp; done) | (go_simp; rfl)); intro gb129 hg w103 hbox hb; have n0_ := Aside0.mk (Kd.R_below (Kd.R_elderB (by (with_reducible repeat (first | apply Kd.R_alloc | apply Kd.R_drewN | apply Kd.R_drew)); exact HO_9.out) gb129 (Nat.le_of_eq hg.symm)) hb); have n1_ := Aside0.mk (blk_below (g := gb124) (o := .cells #[.int .i64 a0_0, .int .i64 a0_1, .int .i64 a0_2, .int .i64 a0_3, .string a0_4, .slice A0_5 l0_5.length c0_5] 25 (0, 0)) (by (with_reducible repeat (first | refine blk_drewN ?_ _ | refine blk_drew ?_ | refine blk_alloc ?_ _)); exact BK124.out) hb); have n2_ := Aside0.mk (below_step (by repeat (first | (with_reducible first | exact HB.out | apply below_alloc | apply pw_below_drewN | apply below_drew1 | refine below_set ?_ GE124.out) | exact HB.out)) hb); have n3_ := Aside0.mk (hbox); have n4_ := Aside0.mk ((by rw [hg]; exact (below_size (by repeat (first | (with_reducible first | exact HB.out | apply below_alloc | apply pw_below_drewN | apply below_drew1 | refine below_set ?_ GE124.out) | exact HB.out))) : w.heap.size ≤ gb129)); have n5_ := Aside0.mk ((by rw [hg]; exact (below_size (by repeat (first | (with_reducible first | exact HB.out | apply below_alloc | apply pw_below_drewN | apply below_drew1 | refine below_set ?_ GE124.out) | exact HB.out))) : w.heap.size ≤ gb129)); have n6_ := Aside0.mk ((by rw [hg]; exact Nat.ne_of_lt (blk_lt (g := gb124) (o := .cells #[.int .i64 a0_0, .int .i64 a0_1, .int .i64 a0_2, .int .i64 a0_3, .string a0_4, .slice A0_5 l0_5.length c0_5] 25 (0, 0)) (by (with_reducible repeat (first | refine blk_drewN ?_ _ | refine blk_drew ?_ | refine blk_alloc ?_ _)); exact BK124.out)) : gb124 ≠ gb129)); have n7_ := Aside0.mk ((by rw [hg]; exact Nat.ne_of_gt (blk_lt (g := gb124) (o := .cells #[.int .i64 a0_0, .int .i64 a0_1, .int .i64 a0_2, .int .i64 a0_3, .string a0_4, .slice A0_5 l0_5.length c0_5] 25 (0, 0)) (by (with_reducible repeat (first | refine blk_drewN ?_ _ | refine blk_drew ?_ | refine blk_alloc ?_ _)); exact BK124.out)) : gb129 ≠ gb124)); clear HO_9; clear BK124; clear HB; have HO_9 := n0_; have BK124 := n1_; have HB := n2_; have BK129 := n3_; have GW129 := n4_; have GE129 := n5_; have NB124_129 := n6_; have NB129_124 := n7_; clear n0_ n1_ n2_ n3_ n4_ n5_ n6_ n7_; clear hb hbox hg; have hnb104 := NB129_124.out; have hnc104 := NB124_129.out; have hcz105_0 : w103.cell? ⟨gb129, 0, none⟩ = some (.string (⟨#[]⟩ : ByteArray)) := (blk_cell BK129.out 0).trans rfl; have hcz105_1 : w103.cell? ⟨gb129, 1, none⟩ = some (.int .i64 0) := (blk_cell BK129.out 1).trans rfl; have hcz105_2 : w103.cell? ⟨gb129, 2, none⟩ = some (.bool false) := (blk_cell BK129.out 2).trans rfl; have hcz105_3 : w103.cell? ⟨gb129, 3, none⟩ = some (.bool false) := (blk_cell BK129.out 3).trans rfl; have hcz105_4 : w103.cell? ⟨gb129, 4, none⟩ = some (.bool false) := (blk_cell BK129.out 4).trans rfl; have hcz105_5 : w103.cell? ⟨gb129, 5, none⟩ = some (.bool false) := (blk_cell BK129.out 5).trans rfl; have hcz105_6 : w103.cell? ⟨gb129, 6, none⟩ = some (.bool false) := (blk_cell BK129.out 6).trans rfl; have hfz105_0 := blk_frozen BK129.out 0; have hfz105_1 := blk_frozen BK129.out 1; have hfz105_2 := blk_frozen BK129.out 2; have hfz105_3 := blk_frozen BK129.out 3; have hfz105_4 := blk_frozen BK129.out 4; have hfz105_5 := blk_frozen BK129.out 5; have hfz105_6 := blk_frozen BK129.out 6; have hcz106_0 : w103.cell? ⟨gb124, 0, none⟩ = some (.int .i64 a0_0) := (blk_cell BK124.out 0).trans rfl; have hcz106_1 : w103.cell? ⟨gb124, 1, none⟩ = some (.int .i64 a0_1) := (blk_cell BK124.out 1).trans rfl; have hcz106_2 : w103.cell? ⟨gb124, 2, none⟩ = some (.int .i64 a0_2) := (blk_cell BK124.out 2).trans rfl; have hcz106_3 : w103.cell? ⟨gb124, 3, none⟩ = some (.int .i64 a0_3) := (blk_cell BK124.out 3).trans rfl; have hcz106_4 : w103.cell? ⟨gb124, 4, none⟩ = some (.string a0_4) := (blk_cell BK124.out 4).trans rfl; have hcz106_5 : w103.cell? ⟨gb124, 5, none⟩ = some (.slice A0_5 l0_5.length c0_5) := (blk_cell BK124.out 5).trans rfl; have hfz106_0 := blk_frozen BK124.out 0; have hfz106_1 := blk_frozen BK124.out 1; have hfz106_2 := blk_frozen BK124.out 2; have hfz106_3 := blk_frozen BK124.out 3; have hfz106_4 := blk_frozen BK124.out 4; have hfz106_5 := blk_frozen BK124.out 5))
              go_roundg k1
              case measure => have := HK1.out; omega
              case rel => exact ⟨(wrap64 (x11_1 + 1)), (by first | rfl | (simp; done) | (simp; exact (fun l_ : List UInt8 => (by cases l_ <;> rfl : l_.isEmpty = !(l_ != []))) _) | (simp [*]; done)), H', ⟨by have := HK1.out; omega⟩, ⟨by (with_reducible repeat (first | apply Kd.R_alloc | apply Kd.R_drewN | apply Kd.R_drew)); exact Kd.R_mono (Kd.R_far (p := ⟨gb129, 6, none⟩) (Kd.R_far (p := ⟨gb129, 5, none⟩) (Kd.R_far (p := ⟨gb129, 4, none⟩) (Kd.R_far (p := ⟨gb129, 3, none⟩) (Kd.R_far (p := ⟨gb129, 2, none⟩) (Kd.R_far (p := ⟨gb129, 1, none⟩) (Kd.R_far (p := ⟨gb129, 0, none⟩) (Kd.R_mono HO_9.out (fun k_ hk => (⟨hk, hk.2⟩ : _ ∧ k_ ≠ gb129))) (fun _ hk => hk.2) (.string ((rd_T47 t125 x11_1).f0))) (fun _ hk => hk.2) (.int .i64 ((rd_T47 t125 x11_1).f1))) (fun _ hk => hk.2) (.bool ((rd_T47 t125 x11_1).f2))) (fun _ hk => hk.2) (.bool ((rd_T47 t125 x11_1).f3))) (fun _ hk => hk.2) (.bool ((rd_T47 t125 x11_1).f4))) (fun _ hk => hk.2) (.bool ((rd_T47 t125 x11_1).f5))) (fun _ hk => hk.2) (.bool ((rd_T47 t125 x11_1).f6))) (fun _ hk => trivial)⟩, ⟨by (with_reducible repeat (first | refine blk_drewN ?_ _ | refine blk_drew ?_ | refine blk_alloc ?_ _)); refine blk_far ?_ NB124_129.out _; (with_reducible repeat (first | refine blk_drewN ?_ _ | refine blk_drew ?_ | refine blk_alloc ?_ _)); refine blk_far ?_ NB124_129.out _; (with_reducible repeat (first | refine blk_drewN ?_ _ | refine blk_drew ?_ | refine blk_alloc ?_ _)); refine blk_far ?_ NB124_129.out _; (with_reducible repeat (first | refine blk_drewN ?_ _ | refine blk_drew ?_ | refine blk_alloc ?_ _)); refine blk_far ?_ NB124_129.out _; (with_reducible repeat (first | refine blk_drewN ?_ _ | refine blk_drew ?_ | refine blk_alloc ?_ _)); refine blk_far ?_ NB124_129.out _; (with_reducible repeat (first | refine blk_drewN ?_ _ | refine blk_drew ?_ | refine blk_alloc ?_ _)); refine blk_far ?_ NB124_129.out _; (with_reducible repeat (first | refine blk_drewN ?_ _ | refine blk_drew ?_ | refine blk_alloc ?_ _)); refine blk_far ?_ NB124_129.out _; (with_reducible repeat (first | refine blk_drewN ?_ _ | refine blk_drew ?_ | refine blk_alloc ?_ _)); exact BK124.out⟩, ⟨by repeat (first | (with_reducible first | exact HB.out | apply below_alloc | apply pw_below_drewN | apply below_drew1 | refine below_set ?_ GE124.out | refine below_set ?_ GE129.out) | exact HB.out)⟩⟩
          · rw [if_neg c8] at H
            exact absurd H (by simp)
        · rw [if_neg c7] at H
          exact absurd H (by simp)
      · rw [if_neg c6] at H
        have c6b0 : decide (x11_1 < (t125.length : Int)) = false := decide_eq_false c6
        clear c6
        obtain rfl := Option.some.inj H
        go_wp2
        go_ret
        exact ⟨by first | rfl | (simp [errW_none, errW_some] <;> rfl) | (simp [*, errW_none, errW_some] <;> rfl), by repeat (first | (with_reducible first | exact HB.out | apply below_alloc | apply pw_below_drewN | apply below_drew1 | refine below_set ?_ GE124.out) | exact HB.out)⟩

end Go.Proofs.YtbkhhmgpfjemcaaDoor.PAsk
