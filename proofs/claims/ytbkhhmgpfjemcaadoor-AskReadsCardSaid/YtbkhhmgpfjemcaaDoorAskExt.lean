/-
  The contracts that the printed texts of package ask and its laws ask for (wip/print2).
-/
import Derived.Test.YtbkhhmgpfjemcaaDoorPAskx0
import Derived.Test.YtbkhhmgpfjemcaaDoorAskReadAll
import Derived.Test.YtbkhhmgpfjemcaaDoorJoin
import Derived.OneCell
namespace Go.Proofs.YtbkhhmgpfjemcaaDoor.PAsk
set_option linter.unusedVariables false
set_option linter.unusedSimpArgs false
open Go.RowKit Go.Proofs.YtbkhhmgpfjemcaaDoor Go.Proofs.YtbkhhmgpfjemcaaDoorW.PrintWords Go.Proofs.YtbkhhmgpfjemcaaDoorW.PrintLast Go.Proofs.YtbkhhmgpfjemcaaDoorW.PrintMore

/-- make([]T, 0, c): a row of one's own without elements. -/
theorem Kd_R_make0 {P : Program} {ops : Array Oper} {rest : List Oper} {o : Oper} {a : Act} {Q : Exit → Act → World → Prop} {W : World} {α : Type} (d : Kd α) {w0 : World} (base e : Nat) (hgd : o.guard = none) {N : Tmp} (hd : o.dst = some N) (t : TypeId) (x y : Operand) (ho : o.op = .makeSlice t x y) (n : Int) (hx : a.eval x = .int .i64 0) (hy : a.eval y = .int .i64 n)
    (ht : P.underlying t = some (.slice e)) (z : Value) (bytes : Nat) (hinfo : (P.info? e).map (fun i => (i.zero, i.size, i.bytes)) = some (some z, d.sz, bytes)) (hz : z.cells.size = d.sz) (hs0 : 0 < d.sz) (hb0 : 0 < bytes)
    (z0 : α) {ok okp : Nat → Prop} (hzero : d.M W base okp z0 z.cells.toList) (hok : ∀ k, okp k → ok k) (hfresh : ok W.heap.size) (h0 : 0 ≤ n) (hl : n.toNat * bytes ≤ 281474976710656) (HB : Below base w0 W) (hbase : base ≤ W.heap.size)
    (h : ∀ v1 w1, d.R e w1 base ok v1 (List.replicate 0 z0) → Below base w0 w1 → W.grownBy w1 none → (∃ b, v1.ownBlock = some b ∧ W.heap.size ≤ b) → wpList P ops Q rest (a.put o.dst v1) w1) : wpList P ops Q (o :: rest) a W := by
  obtain ⟨m, rfl⟩ := Int.eq_ofNat_of_zero_le h0
  simp only [Int.toNat_natCast] at hl
  obtain ⟨i0, hi, hzz⟩ := Option.map_eq_some_iff.1 hinfo
  simp only [Prod.mk.injEq] at hzz
  obtain ⟨hz0, hz1, hz2⟩ := hzz
  have hm : m ≤ 281474976710656 := Nat.le_trans (Nat.le_mul_of_pos_right _ hb0) hl
  have hr := run_make (P := P) W t e i0 z ht hi hz0 .i64 .i64 0 (m : Int) (by omega) (by omega)
    (by
      have h3 : ((i0.bytes * m : Nat) : Int) ≤ 281474976710656 := by rw [hz2, Nat.mul_comm]; omega
      rwa [Int.natCast_mul] at h3) (by omega)
  simp only [Int.toNat_natCast] at hr
  rw [hz1] at hr
  have hx0 : (execOp a.eval o).run P W = .ok (.value (.slice (some ⟨W.heap.size, 0, none⟩) 0 m)) (W.alloc (.cells (madeCells z.cells (m * d.sz)) e)) := by
    simp [execOp, ho, hx, hy, hr]
  refine Kd.event_run hgd hx0 (h _ _ ⟨fun k hk => ?_, [], ?_, ?_⟩ (HB.alloc hbase _) (World.grownBy_alloc W _ none) ⟨W.heap.size, by simp [Value.ownBlock], Nat.le_refl _⟩)
  · have : W.heap.size = k := by simpa [Value.ownBlock] using hk
    subst this
    exact hfresh
  · refine ⟨by simp, .inr ⟨W.heap.size, m, madeCells z.cells (m * d.sz), by simp, hbase, heap_alloc_new W _, by simp, ?_, by simp [size_madeCells], by simp⟩⟩
    simp only [maxLen]
    omega
  · exact ⟨by simp, fun j p hj => by simp at hj⟩
theorem r_string_d {P : Program} {w : World} {base e' : Nat} {ok : Nat → Prop} {src dst e : TypeId} {v : Value} {xs : List Int} (hs : P.underlying src = some (.slice e)) (he : P.underlying e = some (.int .u8)) (hd : P.underlying dst = some .string)
    (h : Kd.R (Kd.int .u8) e' w base ok v xs) (n : Nat) : (convert src dst v).run P (w.drewN n) = .ok (.string (strOfNums xs)) (w.drewN n) :=
  own_string (w := w.drewN n) hs he hd (Kd.own_of_R (Kd.R_drewN h n))

def strings_Cut.f (a0 a1 : ByteArray) : Option (ByteArray × ByteArray × Bool) := if a0.size < 4294967281 then some (⟨(Lib.cut a0.data.toList a1.data.toList).1.toArray⟩, ⟨(Lib.cut a0.data.toList a1.data.toList).2.1.toArray⟩, (Lib.cut a0.data.toList a1.data.toList).2.2) else none
theorem strings_Cut.calls (a0 a1 : ByteArray) (r1 r2 : ByteArray) (r3 : Bool) (w : World) (hE_ : EnvE w) (h : strings_Cut.f a0 a1 = some (r1, r2, r3)) :
    Calls Tryd.prog 22 #[.string a0, .string a1] w fun e w' => e = .returned (.tuple #[.string r1, .string r2, .bool r3]) ∧ Below w.heap.size w w' := by
  unfold strings_Cut.f at h
  split at h
  · rename_i hs
    have h2 := Option.some.inj h
    simp only [Prod.mk.injEq] at h2
    obtain ⟨rfl, rfl, rfl⟩ := h2
    exact cut_any a0 a1 hs w hE_.env _ _ _ (by simp)
  · cases h

def strconv_Itoa.f (a0 : Int) : Option ByteArray := if -9223372036854775808 ≤ a0 ∧ a0 ≤ 9223372036854775807 then some (itoaS a0) else none
theorem strconv_Itoa.calls (a0 : Int) (r : ByteArray) (w : World) (hE_ : EnvE w) (h : strconv_Itoa.f a0 = some r) :
    Calls Tryd.prog 20 #[.int .i64 a0] w fun e w' => e = .returned (.string r) ∧ Below w.heap.size w w' := by
  unfold strconv_Itoa.f at h
  split at h
  · rename_i hs
    exact itoaS_any a0 hs.1 hs.2 w hE_.env r (Option.some.inj h)
  · cases h

def ask_number.f (a0 : ByteArray) : Option (Int × Int) := if a0.size ≤ 281474976710656 then some (askNum a0) else none
theorem ask_number.calls (a0 : ByteArray) (r1 r2 : Int) (w : World) (hE_ : EnvE w) (h : ask_number.f a0 = some (r1, r2)) :
    Calls Tryd.prog 23 #[.string a0] w fun e w' => e = .returned (.tuple #[.int .i64 r1, .int .i64 r2]) ∧ Below w.heap.size w w' := by
  unfold ask_number.f at h
  split at h
  · rename_i hs
    have := askNumber_any a0 hs w hE_
    rw [Option.some.inj h] at this
    exact this
  · cases h

def ask_form_read.f (a0_0 : ByteArray) (a0_1 : Int) (a0_2 a0_3 a0_4 a0_5 a0_6 : Bool) (a1 : ByteArray) : Option (Int × Int × Int × Int × ByteArray × List Int × Int) :=
  if a1.size ≤ 100000 ∧ ((a0_2, a0_3, a0_4) = (true, false, false) ∨ (a0_2, a0_3, a0_4) = (true, true, false) ∨ (a0_2, a0_3, a0_4) = (true, true, true) ∨ (a0_2, a0_3, a0_4) = (false, false, true)) then readOf a0_1 a0_2 a0_3 a0_4 a0_5 a0_6 a1 else none
theorem ask_form_read.calls (a0_0 : ByteArray) (a0_1 : Int) (a0_2 a0_3 a0_4 a0_5 a0_6 : Bool) (a1 : ByteArray) (r1 r2 r3 r4 : Int) (r5 : ByteArray) (r6 : List Int) (r7 : Int) (w : World) (hE_ : EnvE w)
    (h : ask_form_read.f a0_0 a0_1 a0_2 a0_3 a0_4 a0_5 a0_6 a1 = some (r1, r2, r3, r4, r5, r6, r7)) :
    Calls Tryd.prog 16 #[.agg #[.string a0_0, .int .i64 a0_1, .bool a0_2, .bool a0_3, .bool a0_4, .bool a0_5, .bool a0_6], .string a1] w fun e w' => ∃ v5_ : Value, e = .returned (.tuple #[.agg #[.int .i64 r1, .int .i64 r2, .int .i64 r3, .int .i64 r4, .string r5, v5_], .int .i64 r7]) ∧ Kd.R (Kd.int .u8) 5 w' w.heap.size (fun _ => True) v5_ r6 ∧ Below w.heap.size w w' := by
  unfold ask_form_read.f at h
  split at h
  · rename_i hs
    obtain ⟨hs, hc⟩ := hs
    simp only [Prod.mk.injEq] at hc
    rcases hc with ⟨rfl, rfl, rfl⟩ | ⟨rfl, rfl, rfl⟩ | ⟨rfl, rfl, rfl⟩ | ⟨rfl, rfl, rfl⟩
    · exact read_TFF a0_0 a0_1 a0_5 a0_6 a1 hs w hE_ _ h
    · exact read_TTF a0_0 a0_1 a0_5 a0_6 a1 hs w hE_ _ h
    · exact read_TTT a0_0 a0_1 a0_5 a0_6 a1 hs w hE_ _ h
    · exact read_FFT a0_0 a0_1 a0_5 a0_6 a1 hs w hE_ _ h
  · cases h

theorem c_strings {w : World} {A : Option Addr} {l : List ByteArray} (h : Kd.C Kd.string w A l.length l) (h0 : 0 < l.length) :
    ∃ b off, A = some ⟨b, off, none⟩ ∧ b < w.heap.size ∧ ∀ (j : Nat) x, l[j]? = some x → w.cell? ⟨b, off + j, none⟩ = some (.string x) := by
  have hat : ∀ i : Nat, i < l.length → ∃ ad, A = some ad ∧ w.cell? (ad.add i) = some (.string (l.getD i ⟨#[]⟩)) := by
    intro i hi
    obtain ⟨ad, c, e, _, hK, hc⟩ := Kd.C_get h ⟨#[]⟩ (i : Int) (by omega) (by omega)
    simp only [Int.toNat_natCast] at hK hc
    have e1 : c = [Value.string (l.getD i ⟨#[]⟩)] := hK
    refine ⟨ad, e, ?_⟩
    have := hc 0 _ (by rw [e1]; rfl)
    simpa [show Kd.string.sz = 1 from rfl] using this
  obtain ⟨⟨b, off, sp⟩, e, hz⟩ := hat 0 h0
  have hsp : sp = none := by
    simp only [Addr.add, if_true] at hz
    unfold World.cell? at hz
    split at hz
    · cases sp with
      | none => rfl
      | some _ => simp at hz
    · cases hz
  subst hsp
  refine ⟨b, off, e, ?_, ?_⟩
  · have := cell_lt hz
    simpa [Addr.add] using this
  · intro j x hx
    obtain ⟨hj, hx2⟩ := List.getElem?_eq_some_iff.1 hx
    obtain ⟨ad', e', hc⟩ := hat j hj
    obtain rfl : ad' = ⟨b, off, none⟩ := by rw [e] at e'; exact (Option.some.inj e').symm
    have ea : (Addr.add ⟨b, off, none⟩ j) = ⟨b, off + j, none⟩ := by
      unfold Addr.add
      split
      · rename_i h; rw [h]; rfl
      · rfl
    rw [ea] at hc
    rw [hc, List.getD_eq_getElem?_getD, hx]
    rfl
def strings_Join.f (l0 : List ByteArray) (a1 : ByteArray) : Option ByteArray := if l0.length ≤ 140737488355328 ∧ (Lib.join (l0.map (·.data.toList)) a1.data.toList).length ≤ 140737488355328 then some ⟨(Lib.join (l0.map (·.data.toList)) a1.data.toList).toArray⟩ else none
theorem strings_Join.calls (A0 : Option Addr) (c0 : Nat) (l0 : List ByteArray) (a1 : ByteArray) (r : ByteArray) (w : World) (hr0 : Kd.C Kd.string w A0 l0.length l0) (hc0 : l0.length ≤ c0) (h : strings_Join.f l0 a1 = some r) :
    Calls Tryd.prog 21 #[.slice A0 l0.length c0, .string a1] w fun e w' => e = .returned (.string r) ∧ Below w.heap.size w w' := by
  unfold strings_Join.f at h
  split at h
  · rename_i hs
    rw [← Option.some.inj h]
    rcases Nat.eq_zero_or_pos l0.length with h0 | h0
    · obtain rfl := List.length_eq_zero_iff.1 h0
      exact (Tryd.strings_Join_none A0 c0 a1 w).mono fun e w' ⟨a, b⟩ => ⟨a, by subst b; exact Below.refl _ _⟩
    · obtain ⟨b, off, rfl, hb, hc⟩ := c_strings hr0 h0
      exact Tryd.strings_Join b off c0 l0 a1 w hc hb hs.1 hc0 hs.2
  · cases h
end Go.Proofs.YtbkhhmgpfjemcaaDoor.PAsk
