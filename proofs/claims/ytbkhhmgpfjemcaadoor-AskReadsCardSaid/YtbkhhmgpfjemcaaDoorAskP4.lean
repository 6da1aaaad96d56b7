/-
  The plain law of package ask: a whole line.
-/
import Derived.Test.YtbkhhmgpfjemcaaDoorAskP3
namespace Go.Proofs.YtbkhhmgpfjemcaaDoor
set_option linter.unusedVariables false
set_option linter.unusedSimpArgs false
open Go.RowKit Go.Proofs.YtbkhhmgpfjemcaaDoorW.PrintWords Go.Proofs.YtbkhhmgpfjemcaaDoorW.PrintLast Go.Proofs.YtbkhhmgpfjemcaaDoorW.PrintMore

instance : DecidableEq Form := fun a b => decidable_of_iff (a.f0 = b.f0 ∧ a.f1 = b.f1 ∧ a.f2 = b.f2 ∧ a.f3 = b.f3 ∧ a.f4 = b.f4 ∧ a.f5 = b.f5 ∧ a.f6 = b.f6) (by cases a; cases b; simp)
def forms : List Form := PAsk.ask_forms.f.getD []
theorem forms_eq : PAsk.ask_forms.f = some forms := rfl
theorem forms_len : forms.length = 11 := by decide
abbrev wordOf (f : Form) : List UInt8 := f.f0.data.toList
theorem forms_flags : ∀ f ∈ forms, (f.f2, f.f3, f.f4) = (true, false, false) ∨ (f.f2, f.f3, f.f4) = (true, true, false) ∨ (f.f2, f.f3, f.f4) = (true, true, true) ∨ (f.f2, f.f3, f.f4) = (false, false, true) := by decide
def formOf (w : List UInt8) : Option Form := forms.find? fun f => wordOf f == w
theorem formOf_word : ∀ f ∈ forms, formOf (wordOf f) = some f := by decide +kernel
theorem forms_no32 : ∀ f ∈ forms, ∀ b ∈ wordOf f, b ≠ 32 := by decide +kernel
/-- What a line asks. -/
def decL (l : List UInt8) : Asked := if 16384 < l.length then no 2 else match formOf (cutL l).1 with
  | some f => readL f.f1 f.f2 f.f3 f.f4 f.f5 f.f6 (cutL l).2
  | none => no 200
theorem dec_loop (w r : List UInt8) (hr : r.length ≤ 30000) : ∀ (n i k : Nat), i + n = forms.length → n < k →
    PAsk.ask_Decode.l0 k ⟨w.toArray⟩ ⟨r.toArray⟩ forms (forms.length : Int) (i : Int) = some (ofL (match (forms.drop i).find? (fun f => wordOf f == w) with
      | some f => readL f.f1 f.f2 f.f3 f.f4 f.f5 f.f6 r
      | none => no 200)) := by
  intro n
  induction n with
  | zero =>
    intro i k hi hk
    obtain ⟨k, rfl⟩ : ∃ j, k = j + 1 := ⟨k - 1, by omega⟩
    rw [PAsk.ask_Decode.l0, if_neg (by omega), List.drop_eq_nil_of_le (by omega)]
    rfl
  | succ n ih =>
    intro i k hi hk
    obtain ⟨k, rfl⟩ : ∃ j, k = j + 1 := ⟨k - 1, by omega⟩
    have hlt : i < forms.length := by omega
    have hlen := forms_len
    have e1 : wrap64 ((i : Int) + 1) = ((i + 1 : Nat) : Int) := by rw [wrap_ok (by omega) (by omega)]; omega
    have er : PAsk.rd_T47 forms (i : Int) = forms[i] := by simp [PAsk.rd_T47, List.getD_eq_getElem?_getD, hlt]
    rw [PAsk.ask_Decode.l0, if_pos (by omega), if_pos (by omega), if_pos (by omega), e1, er]
    rw [List.drop_eq_getElem_cons hlt, List.find?_cons]
    by_cases h : forms[i].f0.toList = (⟨w.toArray⟩ : ByteArray).toList
    · have h2 : (wordOf forms[i] == w) = true := by
        rw [beq_iff_eq]
        have := h
        rw [Lib.toList_data, Lib.toList_data] at this
        simpa using this
      rw [if_pos h, h2]
      simp only
      rw [PAsk.ask_form_read.f, if_pos ⟨by rw [size_mk]; omega, forms_flags _ (List.getElem_mem hlt)⟩, read_eq _ _ _ _ _ _ _ hr]
      rfl
    · have h2 : (wordOf forms[i] == w) = false := by
        rw [beq_eq_false_iff_ne]
        intro e
        apply h
        rw [Lib.toList_data, Lib.toList_data]
        simpa using e
      rw [if_neg h, h2]
      exact ih (i + 1) k (by omega) (by omega)
theorem dec_eq (l : List UInt8) (k : Nat) (hk : 12 ≤ k) (hl : l.length ≤ 30000) : PAsk.ask_Decode.f k ⟨l.toArray⟩ = some (ofL (decL l)) := by
  unfold PAsk.ask_Decode.f decL
  by_cases h : 16384 < l.length
  · rw [if_pos (by rw [size_mk]; omega), if_pos h]; rfl
  · rw [if_neg (by rw [size_mk]; omega), if_neg h]
    have hc : (cutL l).2.length ≤ l.length := by
      obtain ⟨s, _, e, h, _⟩ := cutL_inv l
      have := congrArg List.length e
      rw [List.length_append] at this
      simp only [h, List.length_drop]
      omega
    have hn : PAsk.ask_next.f ⟨l.toArray⟩ = some (⟨(cutL l).1.toArray⟩, ⟨(cutL l).2.toArray⟩) := by
      unfold PAsk.ask_next.f PAsk.strings_Cut.f
      rw [if_pos (by rw [size_mk]; omega)]
      rfl
    rw [hn, forms_eq]
    simp only [Option.bind_some]
    have := dec_loop (cutL l).1 (cutL l).2 (by omega) 11 0 k (by rw [forms_len]) (by omega)
    rw [List.drop_zero] at this
    exact this
/-- The line that asks it. -/
def lineOf (f : Form) (u0 u1 u2 : Nat) (p : List UInt8) (bs : List Int) : List UInt8 := wordOf f ++ sufOf f.f2 f.f3 f.f4 f.f5 f.f6 u0 u1 u2 p bs
abbrev FitsF (f : Form) (u0 u1 u2 : Nat) (p : List UInt8) (bs : List Int) : Prop := Fits f.f2 f.f3 f.f4 f.f5 f.f6 u0 u1 u2 p bs
theorem dec_suf {f : Form} (hf : f ∈ forms) {s : List UInt8} (hs : Suf s) (hl : (wordOf f ++ s).length ≤ 16384) : decL (wordOf f ++ s) = readL f.f1 f.f2 f.f3 f.f4 f.f5 f.f6 (s.drop 1) := by
  rw [decL, if_neg (by omega), cutL_suf (forms_no32 f hf) hs, formOf_word f hf]
theorem dec_line {f : Form} (hf : f ∈ forms) {u0 u1 u2 : Nat} {p : List UInt8} {bs : List Int} (h : FitsF f u0 u1 u2 p bs) (hl : (lineOf f u0 u1 u2 p bs).length ≤ 16384) :
    decL (lineOf f u0 u1 u2 p bs) = (f.f1, (u0 : Int), (u1 : Int), (u2 : Int), p, bs, (0 : Int)) := by
  rw [lineOf, dec_suf hf (suf_of _ _ _ _ _ _ _ _ _ _) hl, read_canon _ h]
/-! ### a line does not end with a blank -/
def Lk (l : List UInt8) : Prop := l.getLast? ≠ some 32
theorem Lk.append {a b : List UInt8} (ha : Lk a) (hb : Lk b) : Lk (a ++ b) := by
  unfold Lk at *
  rw [List.getLast?_append]
  cases h : b.getLast? with
  | none => simpa [h] using ha
  | some x => rw [h] at hb; simpa using hb
theorem Lk.all {l : List UInt8} (h : ∀ b ∈ l, b ≠ 32) : Lk l := fun e => h 32 (List.mem_of_getLast? e) rfl
theorem Lk.blank {l : List UInt8} (h : ∀ b ∈ l, b ≠ 32) (hl : l ≠ []) : Lk (32 :: l) := by
  intro e
  cases l with
  | nil => exact hl rfl
  | cons a r =>
    rw [List.getLast?_cons_cons] at e
    exact h 32 (List.mem_of_getLast? e) rfl
end Go.Proofs.YtbkhhmgpfjemcaaDoor
