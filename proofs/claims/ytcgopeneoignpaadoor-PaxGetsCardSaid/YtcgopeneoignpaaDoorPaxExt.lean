/-
  The contracts of package pax's functions, in the form in which the printed texts (wip/print2) ask for them.
-/
import Derived.Test.YtcgopeneoignpaaDoorPPaxx0
import Derived.Test.YtcgopeneoignpaaDoorPaxEnc
import Derived.Test.YtcgopeneoignpaaDoorCAny
import Derived.Test.YtcgopeneoignpaaDoorRefNum
namespace Go.Proofs.YtcgopeneoignpaaDoor.PPax
set_option linter.unusedVariables false
set_option linter.unusedSimpArgs false
open Go.RowKit Go.Proofs.YtcgopeneoignpaaDoor Go.Proofs.YtcgopeneoignpaaDoorW.PrintWords Go.Proofs.YtcgopeneoignpaaDoorW.PrintLast Go.Proofs.YtcgopeneoignpaaDoorW.PrintMore

def pax_Check.f (a0_0 a0_1 : ByteArray) : Option Int := if a0_0.size ≤ 1000000 ∧ a0_1.size ≤ 1000000 then some (chkOf a0_0 a0_1) else none
theorem pax_Check.calls (a0_0 : ByteArray) (a0_1 : ByteArray) (r : Int) (w : World) (h : pax_Check.f a0_0 a0_1 = some r) :
    Calls Tryd.prog 31 #[.agg #[.string a0_0, .string a0_1]] w fun e w' => e = .returned (.int .i64 r) ∧ Below w.heap.size w w' := by
  unfold pax_Check.f at h
  split at h
  · cases h; exact check_any cany_any a0_0 a0_1 (by omega) (by omega) w
  · cases h
def pax_length.f (a0_0 a0_1 : ByteArray) : Option Int := if a0_0.size ≤ 1000000 ∧ a0_1.size ≤ 1000000 then some (lenOf a0_0 a0_1) else none
theorem pax_length.calls (a0_0 : ByteArray) (a0_1 : ByteArray) (r : Int) (w : World) (hE_ : EnvE w) (h : pax_length.f a0_0 a0_1 = some r) :
    Calls Tryd.prog 51 #[.agg #[.string a0_0, .string a0_1]] w fun e w' => e = .returned (.int .i64 r) ∧ Below w.heap.size w w' := by
  unfold pax_length.f at h
  split at h
  · cases h; exact length_any a0_0 a0_1 (by omega) (by omega) w hE_.env
  · cases h
def pax_one.f (a0 : ByteArray) : Option (ByteArray × ByteArray × ByteArray × Int) := if a0.size < 4294967281 then some (oneOf a0) else none
theorem pax_one.calls (a0 : ByteArray) (r1 : ByteArray) (r2 : ByteArray) (r3 : ByteArray) (r4 : Int) (w : World) (hE_ : EnvE w) (h : pax_one.f a0 = some (r1, r2, r3, r4)) :
    Calls Tryd.prog 53 #[.string a0] w fun e w' => e = .returned (.tuple #[.agg #[.string r1, .string r2], .string r3, .int .i64 r4]) ∧ Below w.heap.size w w' := by
  unfold pax_one.f at h
  split at h
  · have h2 := Option.some.inj h
    have := one_any cany_any a0 (by assumption) w hE_
    rw [oneW, h2] at this
    exact this
  · cases h
def pax_Number.f (a0 : ByteArray) : Option (Int × Int) := if a0.size ≤ 281474976710656 then some (match numberOf a0 with | some v => (v, 0) | none => (0, 70)) else none
theorem pax_Number.calls (a0 : ByteArray) (r1 : Int) (r2 : Int) (w : World) (hE_ : EnvE w) (h : pax_Number.f a0 = some (r1, r2)) :
    Calls Tryd.prog 25 #[.string a0] w fun e w' => e = .returned (.tuple #[.int .i64 r1, .int .i64 r2]) ∧ Below w.heap.size w w' := by
  unfold pax_Number.f at h
  split at h
  · have h2 := Option.some.inj h
    have := number_any a0 (by assumption) w hE_
    revert this h2
    cases numberOf a0 with
    | none => intro h2 this; simp only [Prod.mk.injEq] at h2; obtain ⟨rfl, rfl⟩ := h2; exact this
    | some v => intro h2 this; simp only [Prod.mk.injEq] at h2; obtain ⟨rfl, rfl⟩ := h2; exact this
  · cases h

def pannierref07_Number.f (a0 : ByteArray) : Option (Int × Bool) := if a0.size ≤ 281474976710656 then some (refNum a0.data.toList) else none
theorem pannierref07_Number.calls (a0 : ByteArray) (r1 : Int) (r2 : Bool) (w : World) (h : pannierref07_Number.f a0 = some (r1, r2)) :
    Calls Tryd.prog 32 #[.string a0] w fun e w' => e = .returned (.tuple #[.int .i64 r1, .bool r2]) ∧ Below w.heap.size w w' := by
  unfold pannierref07_Number.f at h
  split at h
  · have h2 := Option.some.inj h
    refine (refNumber_any a0 (by assumption) w).mono fun e w' ⟨a, b⟩ => ⟨?_, by subst b; exact Below.refl _ _⟩
    rw [h2] at a
    exact a
  · cases h
def recOf (l : List S45) : List Rec := l.map fun x => (x.f0, x.f1)
def intsOf (l : List UInt8) : List Int := l.map fun b => (b.toNat : Int)
def pax_Encode.f (l0 : List S45) : Option (List Int × Int) := if (∀ x ∈ l0, x.f0.size ≤ 1000000 ∧ x.f1.size ≤ 1000000) then some (intsOf (encOf (recOf l0)).1, (encOf (recOf l0)).2) else none

theorem recC_of {w : World} {A : Option Addr} {l : List S45} (h : Kd.C k45 w A l.length l) : RecC w A (recOf l) := by
  intro i hi
  have hl : i < l.length := by simpa [recOf] using hi
  obtain ⟨ad, e, h0, h1⟩ := at_T45 h i (by omega) (by omega)
  obtain ⟨ad', e', h0', _⟩ := at_T45 h 0 (by omega) (by omega)
  obtain rfl : ad' = ad := by rw [e] at e'; exact (Option.some.inj e').symm
  obtain ⟨b, off, sp⟩ := ad'
  have hsp : sp = none := by
    simp only [Int.toNat_zero, Nat.zero_mul, Addr.add, if_true] at h0'
    unfold World.cell? at h0'
    split at h0'
    · cases sp with
      | none => rfl
      | some _ => simp at h0'
    · cases h0'
  subst hsp
  have hlt := World.block_lt_of_cell? w _ h0'
  have ea : (Addr.add ⟨b, off, none⟩ (i * 2)) = ⟨b, off + i * 2, none⟩ := by
    unfold Addr.add
    split
    · rename_i h; rw [h]; rfl
    · rfl
  simp only [Int.toNat_natCast, ea] at h0 h1
  have hrd : rd_T45 l i = l.getD i z45 := rfl
  have hg : (recOf l).getD i default = ((rd_T45 l i).f0, (rd_T45 l i).f1) := by
    rw [hrd]
    simp [recOf, hl]
  rw [hg]
  refine ⟨b, off, e, ?_, h0, h1⟩
  simpa [Addr.add] using hlt
theorem v_of_bytes {w w' : World} {v : Value} {l : List UInt8} (h : BytesAt w w' v l) (hl : l.length ≤ 9223372036854775807) : Kd.V (Kd.int .u8) 5 w' w.heap.size (fun k_ => w.heap.size ≤ k_) v (intsOf l) := by
  obtain ⟨A, c, rfl, hc, h⟩ := h
  have e : l.length = (intsOf l).length := by simp [intsOf]
  rw [e]
  refine Kd.V_mk (by rw [← e]; exact hc) ?_
  intro W' hW
  refine ⟨rfl, by rw [← e]; exact hl, fun h0 => ?_⟩
  rcases h with rfl | ⟨g, cs, t, fr, rfl, hg, hh, hcs⟩
  · simp [intsOf] at h0
  · refine ⟨_, rfl, fun j p hp => ⟨[.int .u8 p], rfl, rfl, fun i u hu => ?_⟩⟩
    have hlt : g < w'.heap.size := (Array.getElem?_eq_some_iff.1 hh).1
    have hh' := (hW g hg hlt).trans hh
    obtain rfl : i = 0 := by rcases i with _ | i; rfl; simp at hu
    have hj : j < l.length := by
      have := (List.getElem?_eq_some_iff.1 hp).1
      rw [e]; exact this
    have h3 := hcs j hj
    have hpv : p = ((l.getD j 0).toNat : Int) := by
      have h4 : (intsOf l)[j]? = some ((l.getD j 0).toNat : Int) := by simp [intsOf, hj]
      rw [h4] at hp
      exact (Option.some.inj hp).symm
    obtain rfl : u = .int .u8 p := by simpa using hu.symm
    have ea : (Addr.add ⟨g, 0, none⟩ (j * 1 + 0)) = ⟨g, j, none⟩ := by
      unfold Addr.add
      split
      · rename_i h; simp at h; rw [h]
      · simp
    show W'.cell? (Addr.add ⟨g, 0, none⟩ (j * 1 + 0)) = _
    rw [ea]
    unfold World.cell?
    rw [hh']
    simp only
    rw [hpv]
    simpa using h3
theorem v_string {P : Program} {w : World} {base e' : Nat} {ok : Nat → Prop} {src dst e : TypeId} {v : Value} {xs : List Int} (hs : P.underlying src = some (.slice e)) (he : P.underlying e = some (.int .u8)) (hd : P.underlying dst = some .string)
    (h : Kd.V (Kd.int .u8) e' w base ok v xs) : (convert src dst v).run P w = .ok (.string (strOfNums xs)) w := by
  obtain ⟨A, c, rfl, hl, hf⟩ := h
  exact Kd.C_string hs he hd (hf w (fun _ _ _ => rfl))
theorem v_string_d {P : Program} {w : World} {base e' : Nat} {ok : Nat → Prop} {src dst e : TypeId} {v : Value} {xs : List Int} (hs : P.underlying src = some (.slice e)) (he : P.underlying e = some (.int .u8)) (hd : P.underlying dst = some .string)
    (h : Kd.V (Kd.int .u8) e' w base ok v xs) (n : Nat) : (convert src dst v).run P (w.drewN n) = .ok (.string (strOfNums xs)) (w.drewN n) :=
  v_string (w := w.drewN n) (base := base) (e' := e') (ok := ok) hs he hd h
theorem r_string_d {P : Program} {w : World} {base e' : Nat} {ok : Nat → Prop} {src dst e : TypeId} {v : Value} {xs : List Int} (hs : P.underlying src = some (.slice e)) (he : P.underlying e = some (.int .u8)) (hd : P.underlying dst = some .string)
    (h : Kd.R (Kd.int .u8) e' w base ok v xs) (n : Nat) : (convert src dst v).run P (w.drewN n) = .ok (.string (strOfNums xs)) (w.drewN n) :=
  own_string (w := w.drewN n) hs he hd (Kd.own_of_R (Kd.R_drewN h n))
theorem pax_Encode.calls (A0 : Option Addr) (c0 : Nat) (l0 : List S45) (r1 : List Int) (r2 : Int) (w : World) (hr0 : Kd.C k45 w A0 l0.length l0) (hc0 : l0.length ≤ c0) (hE_ : EnvE w) (h : pax_Encode.f l0 = some (r1, r2)) :
    Calls Tryd.prog 29 #[.slice A0 l0.length c0] w fun e w' => ∃ v0_ : Value, e = .returned (.tuple #[v0_, .int .i64 r2]) ∧ Kd.V (Kd.int .u8) 5 w' w.heap.size (fun k_ => w.heap.size ≤ k_) v0_ r1 ∧ Below w.heap.size w w' := by
  unfold pax_Encode.f at h
  split at h
  · rename_i hs
    have h2 := Option.some.inj h
    simp only [Prod.mk.injEq] at h2
    obtain ⟨rfl, rfl⟩ := h2
    have hsz : ∀ r ∈ recOf l0, r.1.size ≤ 1000000 ∧ r.2.size ≤ 1000000 := by
      intro r hr
      simp only [recOf, List.mem_map] at hr
      obtain ⟨x, hx, rfl⟩ := hr
      exact hs x hx
    have hlen : (recOf l0).length = l0.length := by simp [recOf]
    have := encode_any cany_any (recOf l0) A0 c0 w (recC_of hr0) hsz hE_
    rw [hlen] at this
    refine this.mono fun e w' ⟨v, a, b, c⟩ => ⟨v, a, v_of_bytes b ?_, c⟩
    unfold encOf
    split
    · simp
    · split
      · have := encL_le (l := recOf l0) (n := 2000100) (fun r hr => recT_le r.1 r.2 (hsz r hr).1 (hsz r hr).2)
        simp only
        have h64 : (recOf l0).length ≤ 64 := by omega
        have := Nat.mul_le_mul_right 2000100 h64
        omega
      · simp
  · cases h
end Go.Proofs.YtcgopeneoignpaaDoor.PPax
