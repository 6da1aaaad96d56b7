/-
  Several texts in one: YtpbpfngichfgeaaGreatDoorPFedx0, YtpbpfngichfgeaaGreatDoorFedExt, YtpbpfngichfgeaaGreatDoorPFedx1.
-/
import Derived.Test.YtpbpfngichfgeaaGreatDoorProg
import Derived.Below
import Derived.Deep.Draws
import Derived.Deep.AppendLies
import Derived.Maps.AppendAt
import Derived.OwnWalk
import Derived.Laws.BytesArg
import Derived.Laws.MakeOwn
import Derived.Laws.OwnMore
import Derived.Deep.OwnRows
import Derived.Tactics
import Derived.Lib.ConvBytes
import Derived.Laws.Slices
import Derived.WalkKit
import Derived.KernelRfl
import Derived.RowKit3
import Derived.Deep.LoopGhost
import Derived.Deep.QuietTactic
import Derived.BigQuiet
import Derived.WideLaws
import Derived.Deep.DeepCutAuto
import Derived.Deep.CutBlock
import Derived.Deep.RegionHeld3
import Derived.Laws.Rows
import Derived.Lib.AppendStr
import Derived.ArgAppend
import Derived.Laws.IdiomCopy
import Derived.OrdersHeld
import Derived.Laws.BitsLemmas
import Derived.RowKit
import Derived.Test.YtpbpfngichfgeaaGreatDoorWords
import Derived.Test.YtpbpfngichfgeaaGreatDoorFedW
import Derived.Test.YtpbpfngichfgeaaGreatDoorPushRd
namespace Go.Proofs.YtpbpfngichfgeaaGreatDoor.PFed
open Go.RowKit Go.Proofs.YtpbpfngichfgeaaGreatDoorW.PrintWords Go.Proofs.YtpbpfngichfgeaaGreatDoorW.PrintLast Go.Proofs.YtpbpfngichfgeaaGreatDoorW.PrintMore
attribute [local go_sem] max2_int min2_int max_two min_two max_three min_three max_four min_four   -- for this text's walks alone
set_option linter.unusedVariables false
set_option linter.unusedSimpArgs false



def errW : Option Int → Value
  | none => .nilIface
  | some c => .iface 0 (.int .i64 c)
theorem errW_none : errW none = .nilIface := rfl
theorem errW_some (c : Int) : errW (some c) = .iface 0 (.int .i64 c) := rfl

theorem info5 : (Tryz.prog.info? 5).map (fun i => (i.zero, i.size, i.bytes)) = some (some (.int .u8 0), 1, 1) := by kernel_rfl
-- the values' own types
/-! #### struct type 41 -/
structure S41 where
  f0 : ByteArray
  f1 : ByteArray
  f2 : Int
  f3 : Int
  f4 : Int
  f5 : Int
  f6 : Int
  f7 : Int
  f8 : ByteArray
  f9 : ByteArray
def z41 : S41 := ⟨(⟨#[]⟩ : ByteArray), (⟨#[]⟩ : ByteArray), (0 : Int), (0 : Int), (0 : Int), (0 : Int), (0 : Int), (0 : Int), (⟨#[]⟩ : ByteArray), (⟨#[]⟩ : ByteArray)⟩
def k41 : Kd S41 := Kd.iso (Kd.pair Kd.string (Kd.pair Kd.string (Kd.pair (Kd.int .i64) (Kd.pair (Kd.int .i64) (Kd.pair (Kd.int .i64) (Kd.pair (Kd.int .i64) (Kd.pair (Kd.int .i64) (Kd.pair (Kd.int .i64) (Kd.pair Kd.string Kd.string))))))))) (fun x : S41 => (x.f0, x.f1, x.f2, x.f3, x.f4, x.f5, x.f6, x.f7, x.f8, x.f9))
def rd_T41 (xs : List S41) (i : Int) : S41 := xs.getD i.toNat z41
/-! #### struct type 57 -/
structure S57 where
  f0 : S41
  f1 : ByteArray
  f2 : Bool
  f3 : Int
def z57 : S57 := ⟨z41, (⟨#[]⟩ : ByteArray), false, (0 : Int)⟩
def k57 : Kd S57 := Kd.iso (Kd.pair k41 (Kd.pair Kd.string (Kd.pair Kd.bool (Kd.int .i64)))) (fun x : S57 => (x.f0, x.f1, x.f2, x.f3))
def rd_T57 (xs : List S57) (i : Int) : S57 := xs.getD i.toNat z57
end Go.Proofs.YtpbpfngichfgeaaGreatDoor.PFed

namespace Go.Proofs.YtpbpfngichfgeaaGreatDoor.PFed
set_option linter.unusedVariables false
set_option linter.unusedSimpArgs false
open Go Go.RowKit Go.Proofs.YtpbpfngichfgeaaGreatDoor Go.Proofs.YtpbpfngichfgeaaGreatDoorW.PrintWords Go.Proofs.YtpbpfngichfgeaaGreatDoorW.PrintLast Go.Proofs.YtpbpfngichfgeaaGreatDoorW.PrintMore

/-- What the world must hold: the library's tables, and errors' own variable. -/
structure EnvE (w : World) : Prop where
 env0 : Go.Proofs.YtpbpfngichfgeaaGreatDoor.EnvE w
 et : w.cell? ⟨0, 0, none⟩ = some etype
theorem EnvE.below {w w' : World} (h : EnvE w) (hb : Below w.heap.size w w') : EnvE w' := ⟨h.env0.below hb, cell_below hb (Nat.lt_of_lt_of_le (by decide) (ng_of_env h.env0)) h.et⟩
def toS (t : Thg) : S57 := ⟨⟨t.en.path, t.en.link, t.en.kd, t.en.md, t.en.uid, t.en.gid, t.en.mt, t.en.sz, t.en.user, t.en.group⟩, strOfNums t.data, t.whole, t.at_⟩
theorem R_map {α β : Type} {d : Kd α} {d' : Kd β} {f : α → β} {e base : Nat} {w : World} {ok : Nat → Prop} {v : Value} {xs : List α} (hs : d'.sz = d.sz) (hM : ∀ (ok : Nat → Prop) x cs, d.M w base ok x cs → d'.M w base ok (f x) cs) (h : d.R e w base ok v xs) : d'.R e w base ok v (xs.map f) := by
 obtain ⟨h0, inner, ho, hr⟩ := h
 refine ⟨h0, inner, ?_, ?_⟩
 ·rw [List.length_map, hs]
  exact ho
 ·refine ⟨by rw [List.length_map, hs]; exact hr.1, fun j p hp => ?_⟩
  rw [List.getElem?_map] at hp
  obtain ⟨x, hx, rfl⟩ := Option.map_eq_some_iff.1 hp
  rw [hs]
  exact hM _ _ _ (hr.2 j x hx)
theorem k_of_th {w : World} {base : Nat} (ok : Nat → Prop) (t : Thg) (cs : List Value) (h : kThg.M w base ok t cs) : k57.M w base ok (toS t) cs := h
def bytesB (l : List Int) : Bool := l.all fun x => decide (0 ≤ x) && decide (x < 256)
theorem bytesB_of {l : List Int} (h : bytesB l = true) : ∀ x ∈ l, 0 ≤ x ∧ x < 256 := by
 intro x hx
 have := List.all_eq_true.1 h x hx
 simpa using this
theorem bytesB_mk {l : List Int} (h : ∀ x ∈ l, 0 ≤ x ∧ x < 256) : bytesB l = true := List.all_eq_true.2 fun x hx => by simpa using h x hx
def pannierlaw12_reads.f : Option Bool := some true
theorem pannierlaw12_reads.calls (r : Bool) (w : World) (hE_ : EnvE w) (h : pannierlaw12_reads.f = some r) :
  Calls Tryz.prog 19 #[] w fun e w' => e = .returned (.bool r) ∧ Below w.heap.size w w' := by
 have h2 := Option.some.inj h
 subst h2
 exact reads_any w hE_.env0
def pannierlaw12_fed.f (l0 l1 : List Int) : Option (List S57 × Bool × Int × Int × Bool) :=
 if bytesB l0 = true ∧ l0.length ≤ 100000 ∧ l1.length ≤ 1000 then some ((arcOf l0).things.map toS, (arcOf l0).done, (arcOf l0).code, (arcOf l0).place, true) else none
theorem pannierlaw12_fed.calls (A0 : Option Addr) (c0 : Nat) (l0 : List Int) (A1 : Option Addr) (c1 : Nat) (l1 : List Int) (r1 : List S57) (r2 : Bool) (r3 r4 : Int) (r5 : Bool) (w : World) (hr0 : Kd.C (Kd.int .u8) w A0 l0.length l0) (hc0 : l0.length ≤ c0) (hr1 : Kd.C (Kd.int .i64) w A1 l1.length l1) (hc1 : l1.length ≤ c1) (hE_ : EnvE w)
  (h : pannierlaw12_fed.f l0 l1 = some (r1, r2, r3, r4, r5)) :
  Calls Tryz.prog 20 #[.slice A0 l0.length c0, .slice A1 l1.length c1] w fun e w' => ∃ v0_ : Value, e = .returned (.tuple #[.agg #[v0_, .bool r2, .int .i64 r3, .int .i64 r4], .bool r5]) ∧ Kd.R k57 57 w' w.heap.size (fun _ => True) v0_ r1 ∧ Below w.heap.size w w' := by
 unfold pannierlaw12_fed.f at h
 split at h
 ·rename_i hs
  have h2 := Option.some.inj h
  simp only [Prod.mk.injEq] at h2
  obtain ⟨rfl, rfl, rfl, rfl, rfl⟩ := h2
  exact (fed_any A0 A1 c0 c1 l0 l1 w hE_.env0 hE_.et hr0 hr1 hc0 hc1 (bytesB_of hs.1) hs.2.1 hs.2.2).mono fun e w' ⟨v, a, b, c⟩ => ⟨v, a, R_map rfl k_of_th b, c⟩
 ·cases h
end Go.Proofs.YtpbpfngichfgeaaGreatDoor.PFed

namespace Go.Proofs.YtpbpfngichfgeaaGreatDoor.PFed
open Go.RowKit Go.Proofs.YtpbpfngichfgeaaGreatDoorW.PrintWords Go.Proofs.YtpbpfngichfgeaaGreatDoorW.PrintLast Go.Proofs.YtpbpfngichfgeaaGreatDoorW.PrintMore
attribute [local go_sem] max2_int min2_int max_two min_two max_three min_three max_four min_four   -- for this text's walks alone
set_option linter.unusedVariables false
set_option linter.unusedSimpArgs false

theorem eqA41 (d : Nat) (w : World) (x0 y0 : ByteArray) (x1 y1 : ByteArray) (x2 y2 : Int) (x3 y3 : Int) (x4 y4 : Int) (x5 y5 : Int) (x6 y6 : Int) (x7 y7 : Int) (x8 y8 : ByteArray) (x9 y9 : ByteArray) :
    (Op.equalIn (d + 2) 41 (.agg #[.string x0, .string x1, .int .i64 x2, .int .i64 x3, .int .i64 x4, .int .i64 x5, .int .i64 x6, .int .i64 x7, .string x8, .string x9]) (.agg #[.string y0, .string y1, .int .i64 y2, .int .i64 y3, .int .i64 y4, .int .i64 y5, .int .i64 y6, .int .i64 y7, .string y8, .string y9])).run Tryz.prog w = .ok (x0.toList == y0.toList && (x1.toList == y1.toList && (x2 == y2 && (x3 == y3 && (x4 == y4 && (x5 == y5 && (x6 == y6 && (x7 == y7 && (x8.toList == y8.toList && (x9.toList == y9.toList)))))))))) w := by
  refine eqA_of Tryz.underlying41 (by kernel_rfl) ?_
  refine eqf_cons (by rfl) (by go_simp; rfl) (by go_simp; rfl) (by go_simp) ?_
  refine eqf_cons (by rfl) (by go_simp; rfl) (by go_simp; rfl) (by go_simp) ?_
  refine eqf_cons (by rfl) (by go_simp; rfl) (by go_simp; rfl) (by go_simp) ?_
  refine eqf_cons (by rfl) (by go_simp; rfl) (by go_simp; rfl) (by go_simp) ?_
  refine eqf_cons (by rfl) (by go_simp; rfl) (by go_simp; rfl) (by go_simp) ?_
  refine eqf_cons (by rfl) (by go_simp; rfl) (by go_simp; rfl) (by go_simp) ?_
  refine eqf_cons (by rfl) (by go_simp; rfl) (by go_simp; rfl) (by go_simp) ?_
  refine eqf_cons (by rfl) (by go_simp; rfl) (by go_simp; rfl) (by go_simp) ?_
  refine eqf_cons (by rfl) (by go_simp; rfl) (by go_simp; rfl) (by go_simp) ?_
  exact eqf_last (by rfl) (by go_simp; rfl) (by go_simp; rfl) (by go_simp)
theorem eqA57 (d : Nat) (w : World) (x0 y0 : ByteArray) (x1 y1 : ByteArray) (x2 y2 : Int) (x3 y3 : Int) (x4 y4 : Int) (x5 y5 : Int) (x6 y6 : Int) (x7 y7 : Int) (x8 y8 : ByteArray) (x9 y9 : ByteArray) (x10 y10 : ByteArray) (x11 y11 : Bool) (x12 y12 : Int) :
    (Op.equalIn (d + 3) 57 (.agg #[.string x0, .string x1, .int .i64 x2, .int .i64 x3, .int .i64 x4, .int .i64 x5, .int .i64 x6, .int .i64 x7, .string x8, .string x9, .string x10, .bool x11, .int .i64 x12]) (.agg #[.string y0, .string y1, .int .i64 y2, .int .i64 y3, .int .i64 y4, .int .i64 y5, .int .i64 y6, .int .i64 y7, .string y8, .string y9, .string y10, .bool y11, .int .i64 y12])).run Tryz.prog w = .ok ((x0.toList == y0.toList && (x1.toList == y1.toList && (x2 == y2 && (x3 == y3 && (x4 == y4 && (x5 == y5 && (x6 == y6 && (x7 == y7 && (x8.toList == y8.toList && (x9.toList == y9.toList)))))))))) && (x10.toList == y10.toList && (x11 == y11 && (x12 == y12)))) w := by
  refine eqA_of Tryz.underlying57 (by kernel_rfl) ?_
  refine eqf_cons (by rfl) (by go_simp) (by go_simp) (eqA41 (d + 0) w _ _ _ _ _ _ _ _ _ _ _ _ _ _ _ _ _ _ _ _) ?_
  refine eqf_cons (by rfl) (by go_simp; rfl) (by go_simp; rfl) (by go_simp) ?_
  refine eqf_cons (by rfl) (by go_simp; rfl) (by go_simp; rfl) (by go_simp) ?_
  exact eqf_last (by rfl) (by go_simp; rfl) (by go_simp; rfl) (by go_simp)
end Go.Proofs.YtpbpfngichfgeaaGreatDoor.PFed
