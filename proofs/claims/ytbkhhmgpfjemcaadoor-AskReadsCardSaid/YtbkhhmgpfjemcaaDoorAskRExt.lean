/-
  What the texts of AskReads ask of the texts of package ask (contracts that are proved in PAskx1 and PAskx3).
-/
import Derived.Test.YtbkhhmgpfjemcaaDoorPAskRx0
import Derived.Test.YtbkhhmgpfjemcaaDoorPAskx3
namespace Go.Proofs.YtbkhhmgpfjemcaaDoor.PAskR
set_option linter.unusedVariables false
open Go.RowKit Go.Proofs.YtbkhhmgpfjemcaaDoor Go.Proofs.YtbkhhmgpfjemcaaDoorW.PrintWords Go.Proofs.YtbkhhmgpfjemcaaDoorW.PrintLast Go.Proofs.YtbkhhmgpfjemcaaDoorW.PrintMore

theorem less_total : ∀ x y : List UInt8, (!(Op.bytesLess x y || x == y)) = Op.bytesLess y x
  | [], [] => rfl
  | [], _ :: _ => rfl
  | _ :: _, [] => rfl
  | a :: x, b :: y => by
    have ih := less_total x y
    simp only [Op.bytesLess, List.cons_beq_cons]
    rw [← ih]
    by_cases h1 : a < b
    · have h2 : ¬ b < a := fun h => by rw [UInt8.lt_iff_toNat_lt] at h h1; omega
      have h3 : (a == b) = false := by rw [beq_eq_false_iff_ne]; intro e; subst e; rw [UInt8.lt_iff_toNat_lt] at h1; omega
      have h4 : (b == a) = false := by rw [beq_eq_false_iff_ne]; intro e; subst e; rw [UInt8.lt_iff_toNat_lt] at h1; omega
      simp [h1, h2, h3, h4]
    · by_cases h2 : b < a
      · have h3 : (a == b) = false := by rw [beq_eq_false_iff_ne]; intro e; subst e; rw [UInt8.lt_iff_toNat_lt] at h2; omega
        simp [h1, h2, h3]
      · have h3 : a = b := by apply UInt8.toNat_inj.1; rw [UInt8.lt_iff_toNat_lt] at h1 h2; omega
        subst h3
        simp [h1]
@[go_sem] theorem binOp_string_gtr_p (t : TypeId) (a b : ByteArray) : binOp .gtr t (.string a) (.string b) = pure (.bool (Op.bytesLess b.toList a.toList)) := by
  rw [← less_total]; simp [binOp, Op.stringOp]

theorem r_string_d {P : Program} {w : World} {base e' : Nat} {ok : Nat → Prop} {src dst e : TypeId} {v : Value} {xs : List Int} (hs : P.underlying src = some (.slice e)) (he : P.underlying e = some (.int .u8)) (hd : P.underlying dst = some .string)
    (h : Kd.R (Kd.int .u8) e' w base ok v xs) (n : Nat) : (convert src dst v).run P (w.drewN n) = .ok (.string (strOfNums xs)) (w.drewN n) := PAsk.r_string_d hs he hd h n
def ask_Decode.f (a0 : ByteArray) : Option (Int × Int × Int × Int × ByteArray × List Int × Int) := PAsk.ask_Decode.f 100 a0
theorem ask_Decode.calls (a0 : ByteArray) (r1 : Int) (r2 : Int) (r3 : Int) (r4 : Int) (r5 : ByteArray) (r6 : List Int) (r7 : Int) (w : World) (hE_ : EnvE w) (h : ask_Decode.f a0 = some (r1, r2, r3, r4, r5, r6, r7)) :
    Calls Tryd.prog 10 #[.string a0] w fun e w' => ∃ v5_ : Value, e = .returned (.tuple #[.agg #[.int .i64 r1, .int .i64 r2, .int .i64 r3, .int .i64 r4, .string r5, v5_], .int .i64 r7]) ∧ Kd.R (Kd.int .u8) 5 w' w.heap.size (fun _ => True) v5_ r6 ∧ Below w.heap.size w w' :=
  PAsk.ask_Decode.calls 100 a0 r1 r2 r3 r4 r5 r6 r7 w hE_ h
def pannierlaw20_asks.f : Option Bool := PAsk.pannierlaw20_asks.f 100
theorem pannierlaw20_asks.calls (r : Bool) (w : World) (hE_ : EnvE w) (h : pannierlaw20_asks.f = some r) :
    Calls Tryd.prog 9 #[] w fun e w' => e = .returned (.bool r) ∧ Below w.heap.size w w' :=
  PAsk.pannierlaw20_asks.calls 100 r w hE_ h
end Go.Proofs.YtbkhhmgpfjemcaaDoor.PAskR
