/-
  AskOne in plain words.
-/
import Derived.Test.YtbkhhmgpfjemcaaDoorAskP5
import Derived.Test.YtbkhhmgpfjemcaaDoorPAskx4
namespace Go.Proofs.YtbkhhmgpfjemcaaDoor
set_option linter.unusedVariables false
set_option linter.unusedSimpArgs false
open Go.RowKit Go.Proofs.YtbkhhmgpfjemcaaDoorW.PrintWords Go.Proofs.YtbkhhmgpfjemcaaDoorW.PrintLast Go.Proofs.YtbkhhmgpfjemcaaDoorW.PrintMore

theorem asks_at (j : Nat) : PAsk.pannierlaw20_asks.f (100 + j) = some true := by
  induction j with
  | zero => exact asks_true
  | succ j ih => exact PAsk.pannierlaw20_asks.mono (100 + j) _ ih
theorem strOf_inj {a b : List Int} (ha : ∀ x ∈ a, 0 ≤ x ∧ x ≤ 255) (hb : ∀ x ∈ b, 0 ≤ x ∧ x ≤ 255) : ((strOfNums a).toList == (strOfNums b).toList) = decide (a = b) := by
  rw [Lib.toList_data, Lib.toList_data, strOfNums_data, strOfNums_data]
  have key : ∀ a b : List Int, (∀ x ∈ a, 0 ≤ x ∧ x ≤ 255) → (∀ x ∈ b, 0 ≤ x ∧ x ≤ 255) → (a.map fun n => UInt8.ofNat n.toNat) = (b.map fun n => UInt8.ofNat n.toNat) → a = b := by
    intro a
    induction a with
    | nil => intro b _ _ h; cases b with
      | nil => rfl
      | cons y s => simp at h
    | cons x r ih =>
      intro b ha hb h
      cases b with
      | nil => simp at h
      | cons y s =>
        simp only [List.map_cons, List.cons.injEq] at h
        have h1 := ha x (by simp)
        have h2 := hb y (by simp)
        have := congrArg UInt8.toNat h.1
        simp only [UInt8.toNat_ofNat'] at this
        rw [ih s (fun z hz => ha z (by simp [hz])) (fun z hz => hb z (by simp [hz])) h.2]
        congr 1
        omega
  by_cases h : a = b
  · subst h; simp
  · rw [decide_eq_false h, beq_eq_false_iff_ne]
    exact fun e => h (key a b ha hb e)
theorem beq_mk (a b : List UInt8) : ((⟨a.toArray⟩ : ByteArray).toList == (⟨b.toArray⟩ : ByteArray).toList) = decide (a = b) := by
  rw [Lib.toList_data, Lib.toList_data]
  by_cases h : a = b
  · subst h; simp
  · rw [decide_eq_false h, beq_eq_false_iff_ne]
    exact fun e => h (by simpa using e)
theorem toList_mk (l : List UInt8) : (⟨l.toArray⟩ : ByteArray).toList = l := by rw [Lib.toList_data]
/-- A text that ends with a blank, cut. -/
theorem cut_last (c : List UInt8) : (⟨(c ++ [32]).toArray⟩ : ByteArray).extract 0 c.length = ⟨c.toArray⟩ := by
  have h : ((⟨(c ++ [32]).toArray⟩ : ByteArray).extract 0 c.length).data.toList = c := by
    rw [ByteArray.data_extract]
    simp
  cases hx : (⟨(c ++ [32]).toArray⟩ : ByteArray).extract 0 c.length with
  | mk d =>
    rw [hx] at h
    simp only at h
    rw [← h]
theorem bt_last {c : List UInt8} {b : UInt8} (h : c.getLast? = some b) : bt ⟨c.toArray⟩ (wrap64 ((c.length : Int) - 1)) = (b.toNat : Int) ∨ 9223372036854775807 < c.length := by
  by_cases hl : c.length ≤ 9223372036854775807
  · left
    have hc : c ≠ [] := by rintro rfl; simp at h
    have hp : 0 < c.length := List.length_pos_iff.2 hc
    have e : wrap64 ((c.length : Int) - 1) = ((c.length - 1 : Nat) : Int) := by rw [wrap_ok (by omega) (by omega)]; omega
    rw [e]
    exact bt_list (by rw [← List.getLast?_eq_getElem?]; exact h)
  · right; omega
section
variable (A0 A1 A2 A3 B0 B1 B2 B3 : Int) (AP BP : List UInt8) (AD BD : List Int)
/-- What is told at the end. -/
def fin (la lb : List UInt8) : Bool := decide ((A0, A1, A2, A3, AP, AD) = (B0, B1, B2, B3, BP, BD)) == decide (la = lb)
theorem fin_eq (la lb : List UInt8) (ha : ∀ x ∈ AD, 0 ≤ x ∧ x ≤ 255) (hb : ∀ x ∈ BD, 0 ≤ x ∧ x ≤ 255) :
    (if A0 = B0 then (if A1 = B1 then (if A2 = B2 then (if A3 = B3 then (if (⟨AP.toArray⟩ : ByteArray).toList = (⟨BP.toArray⟩ : ByteArray).toList then (some (((strOfNums AD).toList == (strOfNums BD).toList) == ((⟨la.toArray⟩ : ByteArray).toList == (⟨lb.toArray⟩ : ByteArray).toList))) else (some (false == ((⟨la.toArray⟩ : ByteArray).toList == (⟨lb.toArray⟩ : ByteArray).toList)))) else (some (false == ((⟨la.toArray⟩ : ByteArray).toList == (⟨lb.toArray⟩ : ByteArray).toList)))) else (some (false == ((⟨la.toArray⟩ : ByteArray).toList == (⟨lb.toArray⟩ : ByteArray).toList)))) else (some (false == ((⟨la.toArray⟩ : ByteArray).toList == (⟨lb.toArray⟩ : ByteArray).toList)))) else (some (false == ((⟨la.toArray⟩ : ByteArray).toList == (⟨lb.toArray⟩ : ByteArray).toList)))) = some (fin A0 A1 A2 A3 B0 B1 B2 B3 AP BP AD BD la lb) := by
  rw [strOf_inj ha hb, beq_mk, toList_mk, toList_mk]
  unfold fin
  by_cases c0 : A0 = B0
  · rw [if_pos c0]
    by_cases c1 : A1 = B1
    · rw [if_pos c1]
      by_cases c2 : A2 = B2
      · rw [if_pos c2]
        by_cases c3 : A3 = B3
        · rw [if_pos c3]
          by_cases c4 : AP = BP
          · rw [if_pos c4]
            simp only [c0, c1, c2, c3, c4, Prod.mk.injEq, true_and]
          · rw [if_neg c4, decide_eq_false (show ¬ ((A0, A1, A2, A3, AP, AD) = (B0, B1, B2, B3, BP, BD)) from fun h => c4 (by simp only [Prod.mk.injEq] at h; exact h.2.2.2.2.1))]
        · rw [if_neg c3, decide_eq_false (show ¬ ((A0, A1, A2, A3, AP, AD) = (B0, B1, B2, B3, BP, BD)) from fun h => c3 (by simp only [Prod.mk.injEq] at h; exact h.2.2.2.1))]
      · rw [if_neg c2, decide_eq_false (show ¬ ((A0, A1, A2, A3, AP, AD) = (B0, B1, B2, B3, BP, BD)) from fun h => c2 (by simp only [Prod.mk.injEq] at h; exact h.2.2.1))]
    · rw [if_neg c1, decide_eq_false (show ¬ ((A0, A1, A2, A3, AP, AD) = (B0, B1, B2, B3, BP, BD)) from fun h => c1 (by simp only [Prod.mk.injEq] at h; exact h.2.1))]
  · rw [if_neg c0, decide_eq_false (show ¬ ((A0, A1, A2, A3, AP, AD) = (B0, B1, B2, B3, BP, BD)) from fun h => c0 (by simp only [Prod.mk.injEq] at h; exact h.1))]
theorem wrap_len {l : List UInt8} (hl : l.length ≤ 20000) (hp : 0 < l.length) : wrap64 (((⟨l.toArray⟩ : ByteArray).size : Int) - 1) = ((l.length - 1 : Nat) : Int) := by rw [size_mk, wrap_ok (by omega) (by omega)]; omega
theorem bt_end {l : List UInt8} {b : UInt8} (h : l.getLast? = some b) : bt ⟨l.toArray⟩ ((l.length - 1 : Nat) : Int) = (b.toNat : Int) := bt_list (by rw [← List.getLast?_eq_getElem?]; exact h)
theorem l1_stop (k : Nat) (a : ByteArray) (la lb : List UInt8) (ea : a = ⟨la.toArray⟩) (hl : lb.length ≤ 20000) (h : BP ≠ [] ∨ Lk lb) (ha : ∀ x ∈ AD, 0 ≤ x ∧ x ≤ 255) (hb : ∀ x ∈ BD, 0 ≤ x ∧ x ≤ 255) :
    PAsk.pannierlaw20_AskOne.l1 (k + 1) a ⟨lb.toArray⟩ A0 A1 A2 A3 ⟨AP.toArray⟩ AD B0 B1 B2 B3 ⟨BP.toArray⟩ BD = some (fin A0 A1 A2 A3 B0 B1 B2 B3 AP BP AD BD la lb) := by
  subst ea
  rw [PAsk.pannierlaw20_AskOne.l1]
  have hf := fin_eq A0 A1 A2 A3 B0 B1 B2 B3 AP BP AD BD la lb ha hb
  cases hg : lb.getLast? with
  | none =>
    have : lb = [] := List.getLast?_eq_none_iff.1 hg
    subst this
    rw [if_neg (by rw [size_mk]; simp)]
    exact hf
  | some b =>
    have hne : lb ≠ [] := by rintro rfl; simp at hg
    have hp : 0 < lb.length := List.length_pos_iff.2 hne
    rw [if_pos (by rw [size_mk]; omega), wrap_len hl hp, if_pos (by omega), if_pos (by rw [size_mk]; omega), bt_end hg]
    by_cases hb32 : (b.toNat : Int) = 32
    · rw [if_pos hb32]
      have hb2 : b = 32 := UInt8.toNat_inj.1 (by simpa using (by omega : b.toNat = 32))
      rcases h with h | h
      · rw [if_neg (by rw [toList_mk]; exact h)]
        exact hf
      · subst hb2; exact absurd hg h
    · rw [if_neg hb32]
      exact hf
theorem l1_strip (k : Nat) (a : ByteArray) (c : List UInt8) (hl : (c ++ [32]).length ≤ 20000) (h : BP = []) :
    PAsk.pannierlaw20_AskOne.l1 (k + 1) a ⟨(c ++ [32]).toArray⟩ A0 A1 A2 A3 ⟨AP.toArray⟩ AD B0 B1 B2 B3 ⟨BP.toArray⟩ BD = PAsk.pannierlaw20_AskOne.l1 k a ⟨c.toArray⟩ A0 A1 A2 A3 ⟨AP.toArray⟩ AD B0 B1 B2 B3 ⟨BP.toArray⟩ BD := by
  rw [PAsk.pannierlaw20_AskOne.l1]
  have hg : (c ++ [32]).getLast? = some 32 := by simp
  have hp : 0 < (c ++ [32]).length := by simp
  rw [if_pos (by rw [size_mk]; omega), wrap_len hl hp, if_pos (by omega), if_pos (by rw [size_mk]; omega), bt_end hg, if_pos (by rfl), if_pos (by rw [toList_mk]; exact h), if_pos (by rw [size_mk]; omega)]
  have e : (((c ++ [32]).length - 1 : Nat) : Int).toNat = c.length := by simp
  rw [e, cut_last]
theorem l0_stop (k : Nat) (b : ByteArray) (la : List UInt8) (hl : la.length ≤ 20000) (h : AP ≠ [] ∨ Lk la) :
    PAsk.pannierlaw20_AskOne.l0 (k + 1) ⟨la.toArray⟩ b A0 A1 A2 A3 ⟨AP.toArray⟩ AD B0 B1 B2 B3 ⟨BP.toArray⟩ BD = PAsk.pannierlaw20_AskOne.j3 k ⟨la.toArray⟩ b A0 A1 A2 A3 ⟨AP.toArray⟩ AD B0 B1 B2 B3 ⟨BP.toArray⟩ BD := by
  rw [PAsk.pannierlaw20_AskOne.l0]
  cases hg : la.getLast? with
  | none =>
    have : la = [] := List.getLast?_eq_none_iff.1 hg
    subst this
    rw [if_neg (by rw [size_mk]; simp)]
  | some x =>
    have hne : la ≠ [] := by rintro rfl; simp at hg
    have hp : 0 < la.length := List.length_pos_iff.2 hne
    rw [if_pos (by rw [size_mk]; omega), wrap_len hl hp, if_pos (by omega), if_pos (by rw [size_mk]; omega), bt_end hg]
    by_cases hb32 : (x.toNat : Int) = 32
    · rw [if_pos hb32]
      have hb2 : x = 32 := UInt8.toNat_inj.1 (by simpa using (by omega : x.toNat = 32))
      rcases h with h | h
      · rw [if_neg (by rw [toList_mk]; exact h)]
      · subst hb2; exact absurd hg h
    · rw [if_neg hb32]
theorem l0_strip (k : Nat) (b : ByteArray) (c : List UInt8) (hl : (c ++ [32]).length ≤ 20000) (h : AP = []) :
    PAsk.pannierlaw20_AskOne.l0 (k + 1) ⟨(c ++ [32]).toArray⟩ b A0 A1 A2 A3 ⟨AP.toArray⟩ AD B0 B1 B2 B3 ⟨BP.toArray⟩ BD = PAsk.pannierlaw20_AskOne.l0 k ⟨c.toArray⟩ b A0 A1 A2 A3 ⟨AP.toArray⟩ AD B0 B1 B2 B3 ⟨BP.toArray⟩ BD := by
  rw [PAsk.pannierlaw20_AskOne.l0]
  have hg : (c ++ [32]).getLast? = some 32 := by simp
  have hp : 0 < (c ++ [32]).length := by simp
  rw [if_pos (by rw [size_mk]; omega), wrap_len hl hp, if_pos (by omega), if_pos (by rw [size_mk]; omega), bt_end hg, if_pos (by rfl), if_pos (by rw [toList_mk]; exact h), if_pos (by rw [size_mk]; omega)]
  have e : (((c ++ [32]).length - 1 : Nat) : Int).toNat = c.length := by simp
  rw [e, cut_last]
/-- Both texts, trimmed. -/
theorem one_end (k : Nat) (hk : 5 ≤ k) (la lb ca cb : List UInt8) (hla : la.length ≤ 20000) (hlb : lb.length ≤ 20000)
    (ha : la = ca ∨ AP = [] ∧ la = ca ++ [32]) (hb : lb = cb ∨ BP = [] ∧ lb = cb ++ [32]) (ka : AP = [] → Lk ca) (kb : BP = [] → Lk cb) (hA : ∀ x ∈ AD, 0 ≤ x ∧ x ≤ 255) (hB : ∀ x ∈ BD, 0 ≤ x ∧ x ≤ 255) :
    PAsk.pannierlaw20_AskOne.l0 k ⟨la.toArray⟩ ⟨lb.toArray⟩ A0 A1 A2 A3 ⟨AP.toArray⟩ AD B0 B1 B2 B3 ⟨BP.toArray⟩ BD = some (fin A0 A1 A2 A3 B0 B1 B2 B3 AP BP AD BD ca cb) := by
  have oa : AP ≠ [] ∨ Lk ca := by by_cases h : AP = []; exact .inr (ka h); exact .inl h
  have ob : BP ≠ [] ∨ Lk cb := by by_cases h : BP = []; exact .inr (kb h); exact .inl h
  have second : ∀ j, 3 ≤ j → PAsk.pannierlaw20_AskOne.j3 j ⟨ca.toArray⟩ ⟨lb.toArray⟩ A0 A1 A2 A3 ⟨AP.toArray⟩ AD B0 B1 B2 B3 ⟨BP.toArray⟩ BD = some (fin A0 A1 A2 A3 B0 B1 B2 B3 AP BP AD BD ca cb) := by
    intro j hj
    obtain ⟨j, rfl⟩ : ∃ i, j = i + 1 + 1 + 1 := ⟨j - 3, by omega⟩
    rw [PAsk.pannierlaw20_AskOne.j3]
    rcases hb with rfl | ⟨hbp, rfl⟩
    · exact l1_stop _ _ _ _ _ _ _ _ _ _ _ _ _ _ _ _ rfl hlb ob hA hB
    · rw [l1_strip _ _ _ _ _ _ _ _ _ _ _ _ _ _ _ hlb hbp]
      exact l1_stop _ _ _ _ _ _ _ _ _ _ _ _ _ _ _ _ rfl (by simp at hlb; omega) ob hA hB
  obtain ⟨k, rfl⟩ : ∃ i, k = i + 1 + 1 := ⟨k - 2, by omega⟩
  rcases ha with rfl | ⟨hap, rfl⟩
  · rw [l0_stop _ _ _ _ _ _ _ _ _ _ _ _ _ _ _ hla oa]
    exact second _ (by omega)
  · rw [l0_strip _ _ _ _ _ _ _ _ _ _ _ _ _ _ _ hla hap, l0_stop _ _ _ _ _ _ _ _ _ _ _ _ _ _ _ (by simp at hla; omega) oa]
    exact second _ (by omega)
end
theorem ofL_mk (k t n c : Int) (p : List UInt8) (d : List Int) (e : Int) : ofL (k, t, n, c, p, d, e) = (k, t, n, c, (⟨p.toArray⟩ : ByteArray), d, e) := rfl
theorem one_law (a b : ByteArray) : ∃ k, PAsk.pannierlaw20_AskOne.f k a b = some true := by
  refine ⟨100, ?_⟩
  obtain ⟨la, rfl⟩ : ∃ l : List UInt8, a = ⟨l.toArray⟩ := ⟨a.data.toList, by simp⟩
  obtain ⟨lb, rfl⟩ : ∃ l : List UInt8, b = ⟨l.toArray⟩ := ⟨b.data.toList, by simp⟩
  unfold PAsk.pannierlaw20_AskOne.f
  rw [asks_true]
  simp only [Option.bind_some, if_true]
  by_cases h0 : la.length ≤ 20000 ∧ lb.length ≤ 20000
  · obtain ⟨h1, h2⟩ := h0
    rw [if_neg (by rw [size_mk]; omega), decide_eq_false (by rw [size_mk]; omega)]
    have ea := dec_eq la 99 (by omega) (by omega)
    have eb := dec_eq lb 99 (by omega) (by omega)
    rcases hda : decL la with ⟨A0, A1, A2, A3, AP, AD, AE⟩
    rcases hdb : decL lb with ⟨B0, B1, B2, B3, BP, BD, BE⟩
    rw [hda, ofL_mk] at ea
    rw [hdb, ofL_mk] at eb
    rw [show (100 : Nat) = 99 + 1 from rfl, PAsk.pannierlaw20_AskOne.j0, if_neg (by decide), ea, eb]
    simp only [Option.bind_some]
    rw [show (99 : Nat) = 98 + 1 from rfl, PAsk.pannierlaw20_AskOne.j1, PAsk.pannierlaw20_AskOne.j1]
    by_cases hA : AE = 0
    · rw [if_pos hA]
      by_cases hB : BE = 0
      · rw [if_neg (by simp [hB])]
        subst hA hB
        obtain ⟨f, u0, u1, u2, hf, rfl, rfl, rfl, rfl, hF, hll, hq⟩ := dec_ok hda
        obtain ⟨g, v0, v1, v2, hg, rfl, rfl, rfl, rfl, hG, hml, hr⟩ := dec_ok hdb
        have hq' : la = lineOf f u0 u1 u2 AP AD ∨ AP = [] ∧ la = lineOf f u0 u1 u2 AP AD ++ [32] := hq.imp_right fun h => ⟨h.1, h.2.2⟩
        have hr' : lb = lineOf g v0 v1 v2 BP BD ∨ BP = [] ∧ lb = lineOf g v0 v1 v2 BP BD ++ [32] := hr.imp_right fun h => ⟨h.1, h.2.2⟩
        have la1 : (lineOf f u0 u1 u2 AP AD).length ≤ 16384 := by
          rcases hq' with h | ⟨_, h⟩
          · rw [← h]; exact hll
          · rw [h, List.length_append] at hll; omega
        have lb1 : (lineOf g v0 v1 v2 BP BD).length ≤ 16384 := by
          rcases hr' with h | ⟨_, h⟩
          · rw [← h]; exact hml
          · rw [h, List.length_append] at hml; omega
        rw [one_end _ _ _ _ _ _ _ _ _ _ _ _ 98 (by omega) la lb _ _ h1 h2 hq' hr' (fun h => by subst h; exact lk_line hf hF) (fun h => by subst h; exact lk_line hg hG) hF.hb hG.hb]
        congr 1
        unfold fin
        rw [beq_iff_eq, decide_eq_decide]
        constructor
        · intro h
          simp only [Prod.mk.injEq] at h
          obtain ⟨e0, e1, e2, e3, e4, e5⟩ := h
          obtain rfl := forms_kind f hf g hg e0
          obtain rfl : u0 = v0 := by omega
          obtain rfl : u1 = v1 := by omega
          obtain rfl : u2 = v2 := by omega
          rw [e4, e5]
        · intro h
          have ea := dec_line hf hF la1
          have eb := dec_line hg hG lb1
          rw [h, eb] at ea
          simp only [Prod.mk.injEq] at ea ⊢
          obtain ⟨e0, e1, e2, e3, e4, e5, _⟩ := ea
          exact ⟨e0.symm, e1.symm, e2.symm, e3.symm, e4.symm, e5.symm⟩
      · rw [if_pos (by simp [hB])]
    · rw [if_neg hA, if_pos rfl]
  · by_cases h1 : (((⟨la.toArray⟩ : ByteArray).size : Int) > 20000)
    · rw [if_pos h1, show (100 : Nat) = 99 + 1 from rfl, PAsk.pannierlaw20_AskOne.j0, if_pos rfl]
    · rw [if_neg h1, decide_eq_true (by rw [size_mk] at h1 ⊢; omega), show (100 : Nat) = 99 + 1 from rfl, PAsk.pannierlaw20_AskOne.j0, if_pos rfl]
end Go.Proofs.YtbkhhmgpfjemcaaDoor
