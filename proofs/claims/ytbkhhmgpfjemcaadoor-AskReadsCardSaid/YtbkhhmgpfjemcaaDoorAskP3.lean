/-
  The plain law of package ask: what stands behind a word; a whole line; the line that asks it.
-/
import Derived.Test.YtbkhhmgpfjemcaaDoorAskP2
import Derived.Test.YtbkhhmgpfjemcaaDoorPAskx1
namespace Go.Proofs.YtbkhhmgpfjemcaaDoor
set_option linter.unusedVariables false
set_option linter.unusedSimpArgs false
open Go.RowKit Go.Proofs.YtbkhhmgpfjemcaaDoorW.PrintWords Go.Proofs.YtbkhhmgpfjemcaaDoorW.PrintLast Go.Proofs.YtbkhhmgpfjemcaaDoorW.PrintMore

abbrev Form := PAsk.S47
abbrev Asked := Int × Int × Int × Int × List UInt8 × List Int × Int
def ofL (x : Asked) : Int × Int × Int × Int × ByteArray × List Int × Int := (x.1, x.2.1, x.2.2.1, x.2.2.2.1, ⟨x.2.2.2.2.1.toArray⟩, x.2.2.2.2.2.1, x.2.2.2.2.2.2)
def no (e : Int) : Asked := (0, 0, 0, 0, [], [], e)
def readL (k : Int) (b0 b1 b2 bd bp : Bool) (l : List UInt8) : Asked :=
  if (stepL b0 l).2.1 ≠ 0 then no (stepL b0 l).2.1 else
  if (stepL b1 (stepL b0 l).2.2).2.1 ≠ 0 then no (stepL b1 (stepL b0 l).2.2).2.1 else
  if (stepL b2 (stepL b1 (stepL b0 l).2.2).2.2).2.1 ≠ 0 then no (stepL b2 (stepL b1 (stepL b0 l).2.2).2.2).2.1 else
  if bp = true then (k, (stepL b0 l).1, (stepL b1 (stepL b0 l).2.2).1, (stepL b2 (stepL b1 (stepL b0 l).2.2).2.2).1, (stepL b2 (stepL b1 (stepL b0 l).2.2).2.2).2.2, [], 0) else
  if bd = true then match dataV (stepL b2 (stepL b1 (stepL b0 l).2.2).2.2).2.2 with
    | some d => (k, (stepL b0 l).1, (stepL b1 (stepL b0 l).2.2).1, (stepL b2 (stepL b1 (stepL b0 l).2.2).2.2).1, [], d, 0)
    | none => no 200
  else if (stepL b2 (stepL b1 (stepL b0 l).2.2).2.2).2.2 ≠ [] then no 200
  else (k, (stepL b0 l).1, (stepL b1 (stepL b0 l).2.2).1, (stepL b2 (stepL b1 (stepL b0 l).2.2).2.2).1, [], [], 0)
theorem stepL_le (b : Bool) (l : List UInt8) : (stepL b l).2.2.length ≤ l.length := by
  unfold stepL
  split
  · obtain ⟨s, _, e, h, _⟩ := cutL_inv l
    have := congrArg List.length e
    rw [List.length_append] at this
    simp only [h, List.length_drop]
    omega
  · simp
theorem mk_nil {l : List UInt8} : ((⟨l.toArray⟩ : ByteArray) ≠ ⟨#[]⟩) ↔ l ≠ [] := by
  constructor
  · rintro h rfl; exact h rfl
  · intro h e
    apply h
    have := congrArg (fun b : ByteArray => b.data.toList) e
    simpa using this
theorem read_eq (k : Int) (b0 b1 b2 bd bp : Bool) (l : List UInt8) (hl : l.length ≤ 30000) : readOf k b0 b1 b2 bd bp ⟨l.toArray⟩ = some (ofL (readL k b0 b1 b2 bd bp l)) := by
  unfold readOf readL
  simp only [stepN_eq]
  have h0 := stepL_le b0 l
  have h1 := stepL_le b1 (stepL b0 l).2.2
  have h2 := stepL_le b2 (stepL b1 (stepL b0 l).2.2).2.2
  generalize stepL b0 l = x at h0 h1 h2 ⊢
  generalize stepL b1 x.2.2 = y at h1 h2 ⊢
  generalize stepL b2 y.2.2 = z at h2 ⊢
  by_cases c0 : x.2.1 ≠ 0
  · rw [if_pos c0, if_pos c0]; rfl
  rw [if_neg c0, if_neg c0]
  by_cases c1 : y.2.1 ≠ 0
  · rw [if_pos c1, if_pos c1]; rfl
  rw [if_neg c1, if_neg c1]
  by_cases c2 : z.2.1 ≠ 0
  · rw [if_pos c2, if_pos c2]; rfl
  rw [if_neg c2, if_neg c2]
  by_cases c3 : bp = true
  · rw [if_pos c3, if_pos c3]; rfl
  rw [if_neg c3, if_neg c3]
  by_cases c4 : bd = true
  · rw [if_pos c4, if_pos c4, data_eq _ _ (by omega) (by omega)]
    cases dataV z.2.2 with
    | none => rfl
    | some d => rfl
  rw [if_neg c4, if_neg c4]
  by_cases c5 : z.2.2 ≠ []
  · rw [if_pos c5, if_pos (mk_nil.2 c5)]; rfl
  · rw [if_neg c5, if_neg (fun h => c5 (mk_nil.1 h))]; rfl

/-- What stands behind a word. -/
def endOf (bd bp : Bool) (p : List UInt8) (bs : List Int) : List UInt8 := if bp = true then (if p = [] then [] else 32 :: p) else if bd = true then (if bs = [] then [] else 32 :: hexOf bs) else []
def sufOf (b0 b1 b2 bd bp : Bool) (u0 u1 u2 : Nat) (p : List UInt8) (bs : List Int) : List UInt8 := fld b0 u0 ++ (fld b1 u1 ++ (fld b2 u2 ++ endOf bd bp p bs))
structure Fits (b0 b1 b2 bd bp : Bool) (u0 u1 u2 : Nat) (p : List UInt8) (bs : List Int) : Prop where
  n0 : b0 = false → u0 = 0
  n1 : b1 = false → u1 = 0
  n2 : b2 = false → u2 = 0
  l0 : u0 ≤ 1048576
  l1 : u1 ≤ 1048576
  l2 : u2 ≤ 1048576
  hp : bp = false → p = []
  hd : bp = true ∨ bd = false → bs = []
  hb : ∀ x ∈ bs, 0 ≤ x ∧ x ≤ 255
theorem suf_end (bd bp : Bool) (p : List UInt8) (bs : List Int) : Suf (endOf bd bp p bs) := by
  unfold endOf
  split
  · split
    · exact .inl rfl
    · exact .inr ⟨_, rfl⟩
  · split
    · split
      · exact .inl rfl
      · exact .inr ⟨_, rfl⟩
    · exact .inl rfl
theorem suf_of (b0 b1 b2 bd bp : Bool) (u0 u1 u2 : Nat) (p : List UInt8) (bs : List Int) : Suf (sufOf b0 b1 b2 bd bp u0 u1 u2 p bs) :=
  suf_fld _ _ (suf_fld _ _ (suf_fld _ _ (suf_end _ _ _ _)))
theorem end_drop (bd bp : Bool) (p : List UInt8) (bs : List Int) : (endOf bd bp p bs).drop 1 = if bp = true then p else if bd = true then hexOf bs else [] := by
  unfold endOf
  split
  · split
    · rename_i h; simp [h]
    · simp
  · split
    · split
      · rename_i h; simp [h, hexOf]
      · simp
    · rfl
theorem read_canon (k : Int) {b0 b1 b2 bd bp : Bool} {u0 u1 u2 : Nat} {p : List UInt8} {bs : List Int} (h : Fits b0 b1 b2 bd bp u0 u1 u2 p bs) :
    readL k b0 b1 b2 bd bp ((sufOf b0 b1 b2 bd bp u0 u1 u2 p bs).drop 1) = (k, (u0 : Int), (u1 : Int), (u2 : Int), p, bs, (0 : Int)) := by
  have h0 := h.l0; have h1 := h.l1; have h2 := h.l2
  have e0 : stepL b0 ((sufOf b0 b1 b2 bd bp u0 u1 u2 p bs).drop 1) = ((u0 : Int), 0, (fld b1 u1 ++ (fld b2 u2 ++ endOf bd bp p bs)).drop 1) := by
    rw [sufOf, step_fld (by omega) h.n0 (suf_fld _ _ (suf_fld _ _ (suf_end _ _ _ _))), if_neg (by omega), if_neg (by omega)]
  have e1 : stepL b1 ((fld b1 u1 ++ (fld b2 u2 ++ endOf bd bp p bs)).drop 1) = ((u1 : Int), 0, (fld b2 u2 ++ endOf bd bp p bs).drop 1) := by
    rw [step_fld (by omega) h.n1 (suf_fld _ _ (suf_end _ _ _ _)), if_neg (by omega), if_neg (by omega)]
  have e2 : stepL b2 ((fld b2 u2 ++ endOf bd bp p bs).drop 1) = ((u2 : Int), 0, (endOf bd bp p bs).drop 1) := by
    rw [step_fld (by omega) h.n2 (suf_end _ _ _ _), if_neg (by omega), if_neg (by omega)]
  unfold readL
  simp only [e0, e1, e2]
  rw [if_neg (fun h => h rfl), if_neg (fun h => h rfl), if_neg (fun h => h rfl), end_drop]
  cases bp with
  | true => simp [h.hd (.inl rfl)]
  | false =>
    cases bd with
    | true => simp [h.hp rfl, dataV_hex bs h.hb]
    | false => simp [h.hp rfl, h.hd (.inr rfl)]
end Go.Proofs.YtbkhhmgpfjemcaaDoor
