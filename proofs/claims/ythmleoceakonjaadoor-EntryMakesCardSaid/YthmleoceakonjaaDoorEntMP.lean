/-
  What pannierref09's value, text and number and pannierlaw09's plain compute; pannierref09.Make answers makeV, as entry.Make does.
-/
import Derived.Test.YthmleoceakonjaaDoorEntR2
import Derived.Test.YthmleoceakonjaaDoorPEntMx4
import Derived.Test.YthmleoceakonjaaDoorPaxP2
namespace Go.Proofs.YthmleoceakonjaaDoor
set_option linter.unusedVariables false
set_option linter.unusedSimpArgs false
open Go.RowKit Go.Proofs.YthmleoceakonjaaDoorW.PrintWords Go.Proofs.YthmleoceakonjaaDoorW.PrintLast Go.Proofs.YthmleoceakonjaaDoorW.PrintMore Go.Proofs.YthmleoceakonjaaDoor.PEntM

def rec7 (l : List S62) : List Rec := l.map fun x => (x.f0, x.f1)
def recP (l : List S45) : List Rec := l.map fun x => (x.f0, x.f1)
def cnv (l : List S45) : List S62 := l.map fun x => ⟨x.f0, x.f1⟩
theorem rec7_cnv (l : List S45) : rec7 (cnv l) = recP l := by simp [rec7, cnv, recP, Function.comp_def]
theorem toList_nil {s : ByteArray} : s.toList = [] ↔ s = ⟨#[]⟩ := by
  rw [← List.isEmpty_iff, str_empty]
theorem toList_eq {s t : ByteArray} : s.toList = t.toList ↔ s = t := by
  constructor
  · intro h; exact str_of (by simp [h])
  · rintro rfl; rfl

theorem text_eq (a b c : ByteArray) : pannierref09_text.f a b c = some (if a ≠ ⟨#[]⟩ then a else if b ≠ ⟨#[]⟩ then b else c) := by
  unfold pannierref09_text.f
  by_cases h : a = ⟨#[]⟩
  · rw [if_pos (toList_nil.2 h), if_neg (fun q : a ≠ ⟨#[]⟩ => q h)]
    by_cases h2 : b = ⟨#[]⟩
    · rw [if_pos (toList_nil.2 h2), if_neg (fun q : b ≠ ⟨#[]⟩ => q h2)]
    · rw [if_neg (fun q => h2 (toList_nil.1 q)), if_pos h2]
  · rw [if_neg (fun q => h (toList_nil.1 q)), if_pos h]
theorem wrap_succ {i n : Nat} (h : i < n) (hn : n ≤ 1000000) : wrap64 ((i : Int) + 1) = ((i + 1 : Nat) : Int) := by
  unfold wrap64; omega
theorem rd7 {l : List S62} {i : Nat} (h : i < l.length) : ((rd_T62 l i).f0, (rd_T62 l i).f1) = (rec7 l).getD i default := by
  have hrd : rd_T62 l i = l.getD i z62 := rfl
  rw [hrd]
  simp [rec7, h]
theorem value_l1 (g : List S62) (key : ByteArray) (hn : g.length ≤ 1000000) (K : Nat) (d : Nat) : ∀ j : Nat, j + d = g.length →
    pannierref09_value.l1 (2 * d + 2 + K) g key false ((getUpto (rec7 g) key j).getD ⟨#[]⟩) j = some ((getUpto (rec7 g) key g.length).getD ⟨#[]⟩) := by
  induction d with
  | zero =>
    intro j hj
    obtain rfl : j = g.length := by omega
    have e : 2 * 0 + 2 + K = (K + 1) + 1 := by omega
    rw [e]
    simp only [pannierref09_value.l1]
    rw [if_neg (by omega)]
    simp only [pannierref09_value.j2, Bool.false_eq_true, if_false]
  | succ d ih =>
    intro j hj
    have e : 2 * (d + 1) + 2 + K = (2 * d + 2 + K) + 1 + 1 := by omega
    have hlt : j < g.length := by omega
    rw [e]
    simp only [pannierref09_value.l1]
    rw [if_pos (by omega)]
    simp only [pannierref09_value.j2, Bool.not_false, if_true]
    rw [if_pos (by omega), if_pos (by omega), wrap_succ hlt hn]
    have h2 := ih (j + 1) (by omega)
    have hg := rd7 hlt
    have h0 : (rd_T62 g j).f0 = ((rec7 g).getD j default).1 := by rw [← hg]
    have h1 : (rd_T62 g j).f1 = ((rec7 g).getD j default).2 := by rw [← hg]
    rw [getUpto] at h2
    by_cases hk : ((rec7 g).getD j default).1 = key
    · rw [if_pos (by rw [h0, hk]), h1]
      rw [if_pos hk] at h2
      exact h2
    · rw [if_neg (by rw [h0]; exact fun q => hk (toList_eq.1 q))]
      rw [if_neg hk] at h2
      exact h2
theorem value_l1_own (g : List S62) (key v : ByteArray) (K : Nat) : pannierref09_value.l1 (K + 2) g key true v 0 = some v := by
  have e : K + 2 = (K + 1) + 1 := by omega
  rw [e]
  simp only [pannierref09_value.l1, Bool.not_true]
  split <;> simp only [pannierref09_value.j2, Bool.false_eq_true, if_false]
theorem value_l0 (l g : List S62) (key : ByteArray) (hn : l.length ≤ 1000000) (K : Nat) (d : Nat) : ∀ j : Nat, j + d = l.length →
    pannierref09_value.l0 (d + 1 + K) l g key (getUpto (rec7 l) key j).isSome ((getUpto (rec7 l) key j).getD ⟨#[]⟩) j = pannierref09_value.l1 K g key (getUpto (rec7 l) key l.length).isSome ((getUpto (rec7 l) key l.length).getD ⟨#[]⟩) 0 := by
  induction d with
  | zero =>
    intro j hj
    obtain rfl : j = l.length := by omega
    have e : 0 + 1 + K = K + 1 := by omega
    rw [e]
    simp only [pannierref09_value.l0]
    rw [if_neg (by omega)]
  | succ d ih =>
    intro j hj
    have e : d + 1 + 1 + K = (d + 1 + K) + 1 := by omega
    have hlt : j < l.length := by omega
    rw [e]
    simp only [pannierref09_value.l0]
    rw [if_pos (by omega), if_pos (by omega), wrap_succ hlt hn]
    have h2 := ih (j + 1) (by omega)
    have hg := rd7 hlt
    have h0 : (rd_T62 l j).f0 = ((rec7 l).getD j default).1 := by rw [← hg]
    have h1 : (rd_T62 l j).f1 = ((rec7 l).getD j default).2 := by rw [← hg]
    rw [getUpto] at h2
    by_cases hk : ((rec7 l).getD j default).1 = key
    · rw [if_pos (by rw [h0, hk]), h1]
      rw [if_pos hk] at h2
      exact h2
    · rw [if_neg (by rw [h0]; exact fun q => hk (toList_eq.1 q))]
      rw [if_neg hk] at h2
      exact h2
theorem value_eq (l g : List S62) (key : ByteArray) (hl : l.length ≤ 1000000) (hg : g.length ≤ 1000000) : pannierref09_value.f (l.length + 1 + (2 * g.length + 2)) l g key = some (lookup (rec7 g) (rec7 l) key) := by
  have e := value_l0 l g key hl (2 * g.length + 2) l.length 0 (by omega)
  have hll : (rec7 l).length = l.length := by simp [rec7]
  have hlg : (rec7 g).length = g.length := by simp [rec7]
  unfold pannierref09_value.f
  have e2 : pannierref09_value.l0 (l.length + 1 + (2 * g.length + 2)) l g key false ⟨#[]⟩ 0 = pannierref09_value.l1 (2 * g.length + 2) g key (getUpto (rec7 l) key l.length).isSome ((getUpto (rec7 l) key l.length).getD ⟨#[]⟩) 0 := e
  rw [e2, lookup, hll, hlg]
  cases getUpto (rec7 l) key l.length with
  | some v => exact value_l1_own g key v (2 * g.length)
  | none => exact value_l1 g key hg 0 g.length 0 (by omega)

def pairOf (q : Option Int) : Int × Bool := match q with | some v => (v, true) | none => (0, false)
theorem number_eq (v : ByteArray) (n : Int) (hv : v.size ≤ 281474976710656) : pannierref09_number.f v n = some (pairOf (if v ≠ ⟨#[]⟩ then numberOf v else some n)) := by
  unfold pannierref09_number.f
  by_cases h : v = ⟨#[]⟩
  · rw [if_pos (toList_nil.2 h), if_neg (fun q : v ≠ ⟨#[]⟩ => q h)]; rfl
  · rw [if_neg (fun q => h (toList_nil.1 q)), if_pos h, pannierref07_Number.f, if_pos hv, ← numberOf_ref]
    rfl
theorem kindR_eq (t : Int) : kindR t = kindOf t := by
  unfold kindR kindOf
  by_cases h0 : t = 0
  · simp [h0]
  by_cases h1 : t = 48
  · simp [h1]
  by_cases h2 : t = 55
  · simp [h2]
  simp [h0, h1, h2]

theorem refMake_any (form typ : Int) (t0 t1 t2 t3 t4 : ByteArray) (n0 n1 n2 n3 n4 : Int) (Al Ag : Option Addr) (cl cg : Nat) (l g : List S62) (nm lk : ByteArray) (w : World)
    (hl : Kd.C k62 w Al l.length l) (hcl : l.length ≤ cl) (hg : Kd.C k62 w Ag g.length g) (hcg : g.length ≤ cg) (ll : l.length ≤ 1000000) (lg : g.length ≤ 1000000)
    (hfull : t2.size + t0.size ≤ 4611686018427387903) (hnm : nm.size ≤ 4611686018427387904) (hsz : ∀ key, (lookup (rec7 g) (rec7 l) key).size ≤ 281474976710656) :
    Calls Tryd.prog 7 #[.agg (xCells form typ t0 t1 t2 t3 t4 n0 n1 n2 n3 n4), .slice Al l.length cl, .slice Ag g.length cg, .string nm, .string lk] w (Gives (makeV form t0 t1 t2 t3 t4 typ n0 n1 n2 n3 n4 (rec7 g) (rec7 l) nm lk) w) := by
  by_cases h : kindOf typ = 0
  · have := refMake_none form typ t0 t1 t2 t3 t4 n0 n1 n2 n3 n4 Al Ag l.length g.length cl cg nm lk w (by rw [kindR_eq, h])
    unfold makeV
    rw [if_pos h]
    exact this
  · have hpth := Nat.le_trans (textOf_size (g := rec7 g) (l := rec7 l) (key := ⟨#[112, 97, 116, 104]⟩) (n := 4611686018427387904) (Nat.le_trans (hsz _) (by decide)) hnm (fullOf_size (name := t0) (pre := t2) (by omega))) (by decide : 4611686018427387904 ≤ 9223372036854775807)
    refine refMake_walk form typ t0 t1 t2 t3 t4 n0 n1 n2 n3 n4 Al Ag cl cg l g nm lk w hl hcl hg hcg (kindOf typ) (kindR_eq typ) h hfull _ (l.length + 1 + (2 * g.length + 2))
      _ _ (value_eq l g _ ll lg) (text_eq _ _ _) _ _ (value_eq l g _ ll lg) (text_eq _ _ _) _ _ (value_eq l g _ ll lg) (text_eq _ _ _) _ _ (value_eq l g _ ll lg) (text_eq _ _ _)
      _ _ _ (value_eq l g _ ll lg) (number_eq _ _ (hsz _)) _ _ _ (value_eq l g _ ll lg) (number_eq _ _ (hsz _)) _ _ _ (value_eq l g _ ll lg) (number_eq _ _ (hsz _)) _ _ _ (value_eq l g _ ll lg) (number_eq _ _ (hsz _)) hpth ?_
    unfold makeV
    rw [if_neg h, and_4095]
    have hq : ∀ key n, (if lookup (rec7 g) (rec7 l) key ≠ ⟨#[]⟩ then numberOf (lookup (rec7 g) (rec7 l) key) else some n) = numOf (rec7 g) (rec7 l) key n := fun _ _ => rfl
    have ht : ∀ key a b, (if lookup (rec7 g) (rec7 l) key ≠ ⟨#[]⟩ then lookup (rec7 g) (rec7 l) key else if a ≠ ⟨#[]⟩ then a else b) = textOf (rec7 g) (rec7 l) key a b := fun _ _ _ => rfl
    simp only [hq, ht]
    generalize numOf (rec7 g) (rec7 l) _ n3 = q0
    generalize numOf (rec7 g) (rec7 l) _ n1 = q1
    generalize numOf (rec7 g) (rec7 l) _ n2 = q2
    generalize numOf (rec7 g) (rec7 l) _ n4 = q3
    cases q0 <;> cases q1 <;> cases q2 <;> cases q3 <;> rfl

theorem plain_l0 (l : List S45) (hn : l.length ≤ 1000000) (d : Nat) : ∀ j : Nat, j + d = l.length → pannierlaw09_plain.l0 (d + 1) (cnv (l.take j)) l (l.length : Int) j = some (cnv l) := by
  induction d with
  | zero =>
    intro j hj
    obtain rfl : j = l.length := by omega
    simp only [pannierlaw09_plain.l0]
    rw [if_neg (by omega), List.take_length]
  | succ d ih =>
    intro j hj
    have hlt : j < l.length := by omega
    simp only [pannierlaw09_plain.l0]
    have hln : (cnv (l.take j)).length = j := by simp [cnv]; omega
    rw [if_pos (by omega), if_pos (by omega), if_pos (by omega), if_pos (by rw [hln]; omega), wrap_succ hlt hn]
    have e : cnv (l.take j) ++ [⟨(rd_T45 l j).f0, (rd_T45 l j).f1⟩] = cnv (l.take (j + 1)) := by
      rw [List.take_succ_eq_append_getElem hlt]
      have hrd : rd_T45 l j = l.getD j z45 := rfl
      rw [hrd, List.getD_eq_getElem?_getD, List.getElem?_eq_getElem hlt]
      simp only [cnv, List.map_append, List.map_cons, List.map_nil]
      rfl
    rw [e]
    exact ih (j + 1) (by omega)
theorem plain_eq (l : List S45) (hn : l.length ≤ 1000000) : pannierlaw09_plain.f (l.length + 1) l = some (cnv l) := plain_l0 l hn l.length 0 (by omega)

/-- The cells of records, as entry.Make asks them. -/
theorem recs_of {w : World} {A : Option Addr} {l : List S45} (h : Kd.C k45 w A l.length l) : Recs w A (recP l) := by
  rcases Nat.eq_zero_or_pos l.length with h0 | h0
  · exact .inl (by rw [List.length_eq_zero_iff.1 h0]; rfl)
  obtain ⟨ad, e, g0, _⟩ := at_T45 h 0 (by omega) (by omega)
  obtain ⟨b, off, sp⟩ := ad
  have hsp : sp = none := by
    simp only [Int.toNat_zero, Nat.zero_mul, Addr.add, if_true] at g0
    unfold World.cell? at g0
    split at g0
    · cases sp with
      | none => rfl
      | some _ => simp at g0
    · cases g0
  subst hsp
  have hlt := World.block_lt_of_cell? w _ g0
  refine .inr ⟨b, off, e, by simpa [Addr.add] using hlt, fun i hi => ?_⟩
  have hl : i < l.length := by simpa [recP] using hi
  obtain ⟨ad', e', h0', h1'⟩ := at_T45 h i (by omega) (by omega)
  obtain rfl : ad' = ⟨b, off, none⟩ := by rw [e] at e'; exact (Option.some.inj e').symm
  have ea : (Addr.add ⟨b, off, none⟩ (i * 2)) = ⟨b, off + i * 2, none⟩ := by
    unfold Addr.add
    split
    · rename_i h; rw [h]; rfl
    · rfl
  simp only [Int.toNat_natCast, ea] at h0' h1'
  have hrd : rd_T45 l i = l.getD i z45 := rfl
  have hg : (recP l).getD i default = ((rd_T45 l i).f0, (rd_T45 l i).f1) := by
    rw [hrd]
    simp [recP, hl]
  rw [hg]
  exact ⟨h0', h1'⟩
/-- pannierlaw09.plain: records as the document's. -/
def PlainEnd (l : List S45) (w : World) (e : Ending) (w' : World) : Prop := ∃ A c, e = .returned (.slice A l.length c) ∧ l.length ≤ c ∧ Kd.C k62 w' A (cnv l).length (cnv l) ∧ Below w.heap.size w w'
theorem plain_any (A : Option Addr) (c : Nat) (l : List S45) (w : World) (h : Kd.C k45 w A l.length l) (hc : l.length ≤ c) (hn : l.length ≤ 1000000) : Calls Tryd.prog 8 #[.slice A l.length c] w (PlainEnd l w) := by
  refine (pannierlaw09_plain.calls (l.length + 1) A c l (cnv l) w h hc (plain_eq l hn)).mono fun e w' ⟨v, he, hr, hb⟩ => ?_
  obtain ⟨A', c', hv, hc', hC⟩ := Kd.R_reads hr
  have hln : (cnv l).length = l.length := by simp [cnv]
  exact ⟨A', c', by rw [he, hv, hln], by omega, hC, hb⟩
theorem refMake_is (form typ : Int) (t0 t1 t2 t3 t4 : ByteArray) (n0 n1 n2 n3 n4 : Int) (Al Ag : Option Addr) (cl cg : Nat) (l g : List S45) (nm lk : ByteArray) (w : World) (V : Value)
    (hl : Kd.C k62 w Al (cnv l).length (cnv l)) (hcl : l.length ≤ cl) (hg : Kd.C k62 w Ag (cnv g).length (cnv g)) (hcg : g.length ≤ cg) (ll : l.length ≤ 1000000) (lg : g.length ≤ 1000000)
    (hfull : t2.size + t0.size ≤ 4611686018427387903) (hnm : nm.size ≤ 4611686018427387904) (hsz : ∀ key, (lookup (recP g) (recP l) key).size ≤ 281474976710656) (hV : makeV form t0 t1 t2 t3 t4 typ n0 n1 n2 n3 n4 (recP g) (recP l) nm lk = V) :
    Calls Tryd.prog 7 #[.agg (xCells form typ t0 t1 t2 t3 t4 n0 n1 n2 n3 n4), .slice Al l.length cl, .slice Ag g.length cg, .string nm, .string lk] w (Gives V w) := by
  have e1 : (cnv l).length = l.length := by simp [cnv]
  have e2 : (cnv g).length = g.length := by simp [cnv]
  have h := refMake_any form typ t0 t1 t2 t3 t4 n0 n1 n2 n3 n4 Al Ag cl cg (cnv l) (cnv g) nm lk w hl (by omega) hg (by omega) (by omega) (by omega) hfull hnm (by simpa only [rec7_cnv] using hsz)
  rw [rec7_cnv, rec7_cnv, hV, e1, e2] at h
  exact h
theorem makeV_form (form : Int) (name link pre user group : ByteArray) (typ mode uid gid size mtime : Int) (g l : List Rec) (nm lk : ByteArray) :
    ∃ (p q : ByteArray) (k md u gi mt sz : Int) (us gr : ByteArray) (c : Int), makeV form name link pre user group typ mode uid gid size mtime g l nm lk = .tuple #[.agg (eCells p q k md u gi mt sz us gr), .int .i64 c] := by
  unfold makeV madeV finV
  repeat' split
  all_goals exact ⟨_, _, _, _, _, _, _, _, _, _, _, rfl⟩
end Go.Proofs.YthmleoceakonjaaDoor
