/-
 The contracts of the law's fed and reads, in the form in which the printed texts (wip/print2) ask for them.
-/
import Derived.Test.YtpbpfngichfgeaaGreatDoorPFedx0
import Derived.Test.YtpbpfngichfgeaaGreatDoorFedW
import Derived.Test.YtpbpfngichfgeaaGreatDoorPushRd
namespace Go.Proofs.YtpbpfngichfgeaaGreatDoor.PFed
set_option linter.unusedVariables false
set_option linter.unusedSimpArgs false
open Go Go.RowKit Go.Proofs.YtpbpfngichfgeaaGreatDoor Go.Proofs.YtpbpfngichfgeaaGreatDoorW.PrintWords Go.Proofs.YtpbpfngichfgeaaGreatDoorW.PrintLast Go.Proofs.YtpbpfngichfgeaaGreatDoorW.PrintMore

/-- What the world must hold: the library's tables, and errors' own variable. -/
structure EnvE (w : World) : Prop where
 env0 : Go.Proofs.YtpbpfngichfgeaaGreatDoor.EnvE w
 et : w.cell? ⟨0, 0, none⟩ = some etype
theorem EnvE.below {w w' : World} (h : EnvE w) (hb : Below w.heap.size w w') : EnvE w' := ⟨h.env0.below hb, cell_below hb (Nat.lt_of_lt_of_le (by decide) (ng_of_env h.env0)) h.et⟩
def toS (t : Thg) : S57 := ⟨⟨t.en.path, t.en.link, t.en.kd, t.en.md, t.en.uid, t.en.gid, t.en.mt, t.en.sz, t.en.user, t.en.group⟩, strOfNums t.data, t.whole, t.at_⟩
theorem R_map {α β : Type} {d : Kd α} {d' : Kd β} {f : α → β} {e base : Nat} {w : World} {ok : Nat → Prop} {v : Value} {xs : List α} (hs : d'.sz = d.sz) (hM : ∀ (ok : Nat → Prop) x cs, d.M w base ok x cs → d'.M w base ok (f x) cs) (h : d.R e w base ok v xs) : d'.R e w base ok v (xs.map f) := by
 obtain ⟨h0, inner, ho, hr⟩ := h
 refine ⟨h0, inner, ?_, ?_⟩
 ·rw [List.length_map, hs]
  exact ho
 ·refine ⟨by rw [List.length_map, hs]; exact hr.1, fun j p hp => ?_⟩
  rw [List.getElem?_map] at hp
  obtain ⟨x, hx, rfl⟩ := Option.map_eq_some_iff.1 hp
  rw [hs]
  exact hM _ _ _ (hr.2 j x hx)
theorem k_of_th {w : World} {base : Nat} (ok : Nat → Prop) (t : Thg) (cs : List Value) (h : kThg.M w base ok t cs) : k57.M w base ok (toS t) cs := h
def bytesB (l : List Int) : Bool := l.all fun x => decide (0 ≤ x) && decide (x < 256)
theorem bytesB_of {l : List Int} (h : bytesB l = true) : ∀ x ∈ l, 0 ≤ x ∧ x < 256 := by
 intro x hx
 have := List.all_eq_true.1 h x hx
 simpa using this
theorem bytesB_mk {l : List Int} (h : ∀ x ∈ l, 0 ≤ x ∧ x < 256) : bytesB l = true := List.all_eq_true.2 fun x hx => by simpa using h x hx
def pannierlaw12_reads.f : Option Bool := some true
theorem pannierlaw12_reads.calls (r : Bool) (w : World) (hE_ : EnvE w) (h : pannierlaw12_reads.f = some r) :
  Calls Tryz.prog 19 #[] w fun e w' => e = .returned (.bool r) ∧ Below w.heap.size w w' := by
 have h2 := Option.some.inj h
 subst h2
 exact reads_any w hE_.env0
def pannierlaw12_fed.f (l0 l1 : List Int) : Option (List S57 × Bool × Int × Int × Bool) :=
 if bytesB l0 = true ∧ l0.length ≤ 100000 ∧ l1.length ≤ 1000 then some ((arcOf l0).things.map toS, (arcOf l0).done, (arcOf l0).code, (arcOf l0).place, true) else none
theorem pannierlaw12_fed.calls (A0 : Option Addr) (c0 : Nat) (l0 : List Int) (A1 : Option Addr) (c1 : Nat) (l1 : List Int) (r1 : List S57) (r2 : Bool) (r3 r4 : Int) (r5 : Bool) (w : World) (hr0 : Kd.C (Kd.int .u8) w A0 l0.length l0) (hc0 : l0.length ≤ c0) (hr1 : Kd.C (Kd.int .i64) w A1 l1.length l1) (hc1 : l1.length ≤ c1) (hE_ : EnvE w)
  (h : pannierlaw12_fed.f l0 l1 = some (r1, r2, r3, r4, r5)) :
  Calls Tryz.prog 20 #[.slice A0 l0.length c0, .slice A1 l1.length c1] w fun e w' => ∃ v0_ : Value, e = .returned (.tuple #[.agg #[v0_, .bool r2, .int .i64 r3, .int .i64 r4], .bool r5]) ∧ Kd.R k57 57 w' w.heap.size (fun _ => True) v0_ r1 ∧ Below w.heap.size w w' := by
 unfold pannierlaw12_fed.f at h
 split at h
 ·rename_i hs
  have h2 := Option.some.inj h
  simp only [Prod.mk.injEq] at h2
  obtain ⟨rfl, rfl, rfl, rfl, rfl⟩ := h2
  exact (fed_any A0 A1 c0 c1 l0 l1 w hE_.env0 hE_.et hr0 hr1 hc0 hc1 (bytesB_of hs.1) hs.2.1 hs.2.2).mono fun e w' ⟨v, a, b, c⟩ => ⟨v, a, R_map rfl k_of_th b, c⟩
 ·cases h
end Go.Proofs.YtpbpfngichfgeaaGreatDoor.PFed
