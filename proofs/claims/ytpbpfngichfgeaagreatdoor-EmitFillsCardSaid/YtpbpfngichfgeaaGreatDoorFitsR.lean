/-
  Several texts in one: YtpbpfngichfgeaaGreatDoorFitsSpec, YtpbpfngichfgeaaGreatDoorOneP.
-/
import Derived.Test.YtpbpfngichfgeaaGreatDoorSplitR
import Derived.Lib.IndexLaws
import Derived.Test.YtpbpfngichfgeaaGreatDoorHdrO
import Derived.Test.YtpbpfngichfgeaaGreatDoorPaxes
import Derived.Lib.ItoaMem
namespace Go.Proofs.YtpbpfngichfgeaaGreatDoor
set_option linter.unusedVariables false
set_option linter.unusedSimpArgs false
open Go Go.RowKit Go.Proofs.YtpbpfngichfgeaaGreatDoorW.PrintWords
theorem wrapS (n : Int) (h : -9223372036854775808 ≤ n ∧ n ≤ 9223372036854775807) : wrap64 n = n := by unfold wrap64; omega
/-- What head.Split answers. -/
def SplitIs (p : ByteArray) (r : ByteArray × ByteArray × Bool) : Prop :=
  r = (⟨#[]⟩, ⟨#[]⟩, false) ∨ (has0 p = false ∧ ((p.size ≤ 100 ∧ r = (⟨#[]⟩, p, true)) ∨ ∃ i : Nat, 0 < i ∧ i ≤ 155 ∧ i + 1 < p.size ∧ p.size ≤ i + 101 ∧ bt p i = 47 ∧ r = (p.extract 0 i, p.extract (i + 1) p.size, true)))
theorem split_l0 (p : ByteArray) (hp : p.size ≤ 5000) (h0 : has0 p = false) (K : Nat) : ∀ m i, i + m = p.size → ∃ r, POct.head_Split.l0 (K + 2 * m + 1) p (p.size : Int) (i : Nat) = some r ∧ SplitIs p r
  | 0, i, hi => ⟨_, by rw [POct.head_Split.l0, if_neg (by omega)], .inl rfl⟩
  | m + 1, i, hi => by
    obtain ⟨r, hr, hs⟩ := split_l0 p hp h0 K m (i + 1) (by omega)
    have w1 : wrap64 ((i : Int) + 1) = ((i + 1 : Nat) : Int) := by rw [wrapS _ (by omega)]; omega
    have w2 : wrap64 ((p.size : Int) - i) = (p.size : Int) - i := wrapS _ (by omega)
    have w3 : wrap64 ((p.size : Int) - i - 1) = (p.size : Int) - i - 1 := wrapS _ (by omega)
    have w4 : wrap64 ((p.size : Int) - 1) = (p.size : Int) - 1 := wrapS _ (by omega)
    have e : K + 2 * (m + 1) + 1 = (K + 2 * m + 1 + 1) + 1 := by omega
    have hn : ∀ x, POct.head_Split.j2 (K + 2 * m + 1 + 1) p x (p.size : Int) (i : Int) true = some r := by
      intro x
      rw [POct.head_Split.j2, if_pos rfl, w1]
      exact hr
    rw [e, POct.head_Split.l0, if_pos (by omega), if_pos (by omega), if_pos (by omega), w2, w3, w4]
    by_cases hb : bt p i = 47
    · rw [if_pos hb]
      by_cases hz : (i : Int) = 0
      · rw [if_pos hz]; exact ⟨r, hn _, hs⟩
      · rw [if_neg hz]
        by_cases hl : (p.size : Int) - i - 1 > 100
        · rw [if_pos hl]; exact ⟨r, hn _, hs⟩
        · rw [if_neg hl]
          by_cases he : (i : Int) = (p.size : Int) - 1
          · rw [show ((i : Int) == (p.size : Int) - 1) = true by simpa using he]; exact ⟨r, hn _, hs⟩
          · rw [show ((i : Int) == (p.size : Int) - 1) = false by simpa using he, POct.head_Split.j2, if_neg (by decide), w1]
            by_cases h5 : (i : Int) > 155
            · rw [if_pos h5]; exact ⟨_, rfl, .inl rfl⟩
            · rw [if_neg h5, if_pos (by omega), if_pos (by omega), if_pos (by omega), if_pos (by omega)]
              exact ⟨_, rfl, .inr ⟨h0, .inr ⟨i, by omega, by omega, by omega, by omega, hb, by simp⟩⟩⟩
    · rw [if_neg hb]; exact ⟨r, hn _, hs⟩
theorem split_spec (p : ByteArray) (hp : p.size ≤ 5000) : ∃ r, POct.head_Split.f (2 * p.size + 10) p = some r ∧ SplitIs p r := by
  have e : 2 * p.size + 10 = (8 + 2 * p.size + 1) + 1 := by omega
  unfold POct.head_Split.f POct.strings_Contains.f
  by_cases h : p.toList = []
  · rw [if_pos h, e, POct.head_Split.j0, if_pos rfl]
    exact ⟨_, rfl, .inl rfl⟩
  · rw [if_neg h, if_pos rfl, Option.bind_some, e, POct.head_Split.j0]
    cases h0 : has0 p with
    | true => exact ⟨_, by rw [if_pos rfl], .inl rfl⟩
    | false =>
      rw [if_neg (by decide)]
      by_cases h1 : (p.size : Int) ≤ 100
      · rw [if_pos h1]; exact ⟨_, rfl, .inr ⟨h0, .inl ⟨by omega, rfl⟩⟩⟩
      · rw [if_neg h1]
        exact split_l0 p hp h0 8 p.size 0 (by omega)
theorem has0_iff (s : ByteArray) : has0 s = true ↔ (0 : UInt8) ∈ s.data.toList := by
  unfold has0
  rw [decide_eq_true_eq]
  have hge := Lib.indexByte_ge s.data.toList 0
  constructor
  · intro h
    obtain ⟨o, ho⟩ : ∃ o : Nat, Lib.indexByte s.data.toList 0 = o := ⟨(Lib.indexByte s.data.toList 0).toNat, by omega⟩
    exact List.mem_of_getElem? (Lib.indexByte_some ho).1
  · intro hx
    rcases (by omega : 0 ≤ Lib.indexByte s.data.toList 0 ∨ Lib.indexByte s.data.toList 0 = -1) with h1 | h1
    · exact h1
    · obtain ⟨k, hk, e⟩ := List.getElem_of_mem hx
      exact absurd (by rw [List.getElem?_eq_getElem hk, e]) (Lib.indexByte_none h1 k)
theorem has0_extract {s : ByteArray} (h : has0 s = false) (a b : Nat) : has0 (s.extract a b) = false := by
  cases hq : has0 (s.extract a b) with
  | false => rfl
  | true =>
    rw [has0_iff] at hq
    have : (0 : UInt8) ∈ s.data.toList := by
      have h2 : (s.extract a b).data = s.data.extract a b := by simp
      rw [h2] at hq
      rw [Array.toList_extract, List.extract_eq_take_drop] at hq
      exact List.mem_of_mem_drop (List.mem_of_mem_take hq)
    rw [(has0_iff s).2 this] at h
    cases h
theorem tv_fits (s : ByteArray) (m : Nat) : fitsT (tv s m) m = true := by
  unfold tv
  split
  · assumption
  · simp only [fitsT, Bool.and_eq_true, decide_eq_true_eq, Bool.not_eq_true']
    exact ⟨Nat.zero_le _, by decide⟩
theorem nv_fits (n : Int) (w : Nat) (hw : 1 ≤ w) (h : fitsN n w = true → octFits n w) : octFits (nv n w) w := by
  unfold nv
  split
  · rename_i q; exact h q
  · refine ⟨by omega, ?_⟩
    exact Int.pow_pos (by omega)
theorem split_name {p pr nm : ByteArray} {b : Bool} (h : SplitIs p (pr, nm, b)) : fitsT (if b then nm else ⟨#[108, 111, 110, 103]⟩) 100 = true ∧ fitsT (if b then pr else ⟨#[]⟩) 155 = true := by
  rcases h with h | ⟨h0, ⟨h1, h⟩ | ⟨i, hi0, hi1, hi2, hi3, hi4, h⟩⟩
  · simp only [Prod.mk.injEq] at h
    obtain ⟨rfl, rfl, rfl⟩ := h
    exact ⟨by decide, by decide⟩
  · simp only [Prod.mk.injEq] at h
    obtain ⟨rfl, rfl, rfl⟩ := h
    refine ⟨?_, by decide⟩
    simp only [if_true, fitsT, h0, Bool.and_eq_true, decide_eq_true_eq, Bool.not_false, and_true]
    exact h1
  · simp only [Prod.mk.injEq] at h
    obtain ⟨rfl, rfl, rfl⟩ := h
    have s1 : (p.extract (i + 1) p.size).size ≤ 100 := by rw [ByteArray.size_extract]; omega
    have s2 : (p.extract 0 i).size ≤ 155 := by rw [ByteArray.size_extract]; omega
    simp only [if_true, fitsT, has0_extract h0, Bool.and_eq_true, decide_eq_true_eq, Bool.not_false, and_true]
    exact ⟨s1, s2⟩
theorem main_fits {p pr nm : ByteArray} {b : Bool} (h : SplitIs p (pr, nm, b)) (link user group : ByteArray) {typ md : Int} (uid gid sz mt : Int) (ht : 0 ≤ typ) (ht2 : typ < 256) (hm : 0 ≤ md) (hm2 : md ≤ 4095) :
    HdrFits (if b then nm else ⟨#[108, 111, 110, 103]⟩) (tv link 100) (if b then pr else ⟨#[]⟩) (tv user 31) (tv group 31) typ md (nv uid 8) (nv gid 8) (nv sz 12) (nv mt 12) := by
  obtain ⟨n1, n2⟩ := split_name h
  have fn : ∀ n w, fitsN n w = true → octFits n w := fun n w h => by
    unfold fitsN at h
    exact of_decide_eq_true (p := 0 ≤ n ∧ n < 8 ^ (w - 1)) h
  refine ⟨fun k hk => ?_, fun k hk => ?_, ht, ht2⟩
  · rcases (by omega : k = 0 ∨ k = 1 ∨ k = 2 ∨ k = 3 ∨ k = 4) with rfl | rfl | rfl | rfl | rfl
    · exact (fits_t _ 100).trans (congrArg some n1)
    · exact (fits_t _ 100).trans (congrArg some (tv_fits link 100))
    · exact (fits_t _ 31).trans (congrArg some (tv_fits user 31))
    · exact (fits_t _ 31).trans (congrArg some (tv_fits group 31))
    · exact (fits_t _ 155).trans (congrArg some n2)
  · rcases (by omega : k = 0 ∨ k = 1 ∨ k = 2 ∨ k = 3 ∨ k = 4) with rfl | rfl | rfl | rfl | rfl
    · exact ⟨hm, Int.lt_of_le_of_lt hm2 (by decide)⟩
    · exact nv_fits _ _ (by decide) (fn _ _)
    · exact nv_fits _ _ (by decide) (fn _ _)
    · exact nv_fits _ _ (by decide) (fn _ _)
    · exact nv_fits _ _ (by decide) (fn _ _)
end Go.Proofs.YtpbpfngichfgeaaGreatDoor

namespace Go.Proofs.YtpbpfngichfgeaaGreatDoor
set_option linter.unusedVariables false
set_option linter.unusedSimpArgs false
open Go Go.RowKit Go.Proofs.YtpbpfngichfgeaaGreatDoorW.PrintWords

/-- A path is what head.Split made of it. -/
theorem split_path {p pr nm : ByteArray} (h : SplitIs p (pr, nm, true)) : p.data.toList = if pr.size = 0 then nm.data.toList else pr.data.toList ++ 47 :: nm.data.toList := by
  rcases h with h | ⟨h0, ⟨h1, h⟩ | ⟨i, hi0, hi1, hi2, hi3, hi4, h⟩⟩
  · simp at h
  · simp only [Prod.mk.injEq] at h
    obtain ⟨rfl, rfl, _⟩ := h
    rw [if_pos (show (⟨#[]⟩ : ByteArray).size = 0 from rfl)]
  · simp only [Prod.mk.injEq] at h
    obtain ⟨rfl, rfl, _⟩ := h
    have s2 : (p.extract 0 i).size = i := by rw [ByteArray.size_extract]; omega
    rw [if_neg (by omega)]
    have hl : i < p.data.toList.length := by rw [← Lib.size_eq]; omega
    have hb : p.data.toList[i] = 47 := by
      have e := bt_at p (i : Int) (by simpa using (by omega : i < p.size))
      rw [hi4] at e
      have e2 : p[(i : Int).toNat]'(by simpa using (by omega : i < p.size)) = p.data.toList[i] := by simp [ByteArray.getElem_eq_getElem_data]
      rw [e2] at e
      have e3 : p.data.toList[i].toNat = 47 := by omega
      exact UInt8.toNat_inj.1 (by rw [e3]; rfl)
    have e1 : (p.extract 0 i).data.toList = p.data.toList.take i := by simp [ByteArray.data_extract, Array.toList_extract, List.extract_eq_take_drop]
    have e2 : (p.extract (i + 1) p.size).data.toList = p.data.toList.drop (i + 1) := by
      simp only [ByteArray.data_extract, Array.toList_extract, List.extract_eq_take_drop]
      exact List.take_of_length_le (by rw [List.length_drop, ← Lib.size_eq]; omega)
    rw [e1, e2, ← hb, ← List.drop_eq_getElem_cons hl, List.take_append_drop]
theorem findM_app : ∀ (A B : List KV) (k : ByteArray), findM (A ++ B) k = (findM A k).or (findM B k)
  | [], B, k => by simp [findM]
  | x :: A, B, k => by
    simp only [List.cons_append, findM]
    split
    · rfl
    · exact findM_app A B k
theorem recsK_find (L : List KV) : ∀ n, n ≤ 8 → ∀ j, j < 8 → findM (recsK L n) (sKey j) = if j < n then findM L (sKey j) else none
  | 0, _, j, _ => rfl
  | n + 1, hn, j, hj => by
    have hk : ∀ a, a < 8 → ∀ b, b < 8 → a ≠ b → sKey a ≠ sKey b := by decide
    rw [recsK, findM_app, recsK_find L n (by omega) j hj]
    rcases Nat.lt_trichotomy j n with h | h | h
    · rw [if_pos h, if_pos (by omega)]
      cases hf : findM L (sKey n) with
      | none => simp [findM]
      | some v => simp [findM, hk n (by omega) j hj (by omega)]
    · subst h
      rw [if_neg (by omega), if_pos (by omega)]
      cases hf : findM L (sKey j) <;> simp [findM]
    · rw [if_neg (by omega), if_neg (by omega)]
      cases hf : findM L (sKey n) with
      | none => simp [findM]
      | some v => simp [findM, hk n (by omega) j hj (by omega)]
theorem findM_mem : ∀ (L : List KV) (k v : ByteArray), findM L k = some v → (k, v) ∈ L
  | [], _, _, h => by cases h
  | x :: L, k, v, h => by
    rw [findM] at h
    split at h
    · rename_i q
      have := Option.some.inj h
      rw [show (k, v) = x from Prod.ext q.symm this.symm]; simp
    · exact List.mem_cons_of_mem _ (findM_mem L k v h)
theorem recsK_mem (L : List KV) : ∀ n, ∀ x ∈ recsK L n, x ∈ L ∧ ∃ j, j < n ∧ x.1 = sKey j
  | 0, x, hx => by cases hx
  | n + 1, x, hx => by
    rw [recsK] at hx
    rcases List.mem_append.1 hx with h | h
    · obtain ⟨a, j, hj, e⟩ := recsK_mem L n x h
      exact ⟨a, j, by omega, e⟩
    · cases hf : findM L (sKey n) with
      | none => rw [hf] at h; cases h
      | some v =>
        rw [hf] at h
        obtain rfl := List.mem_singleton.1 h
        exact ⟨findM_mem _ _ _ hf, n, by omega, rfl⟩
/-- What doesn't fit of an entry, by its keys. -/
def lEnt (p l u g : ByteArray) (b : Bool) (uid gid sz mt : Int) : List KV := lN (lT (if b then [] else [(⟨#[112, 97, 116, 104]⟩, p)]) l u g 3) uid gid sz mt 4
def pF (p : ByteArray) (b : Bool) (key : ByteArray) : Option ByteArray := if b = true then none else if (⟨#[112, 97, 116, 104]⟩ : ByteArray) = key then some p else none
def tF (l u g key : ByteArray) (k : Nat) : Option ByteArray := if fitsT (tS l u g k) (tMost k) = true then none else if tKey k = key then some (tS l u g k) else none
def nF (uid gid sz mt : Int) (key : ByteArray) (k : Nat) : Option ByteArray := if fitsN (nN uid gid sz mt k) (nWd k) = true then none else if nKey k = key then some (itoaS (nN uid gid sz mt k)) else none
section
variable (p l u g : ByteArray) (b : Bool) (uid gid sz mt : Int)
/-- The values of what doesn't fit. -/
theorem lT_val (l0 : List KV) : ∀ k, k ≤ 3 → ∀ x ∈ lT l0 l u g k, x ∈ l0 ∨ ∃ j, j < 3 ∧ x.2 = tS l u g j
  | 0, _, x, hx => .inl hx
  | k + 1, hk, x, hx => by
    rw [lT] at hx
    split at hx
    · exact lT_val l0 k (by omega) x hx
    · rcases List.mem_append.1 hx with h | h
      · exact lT_val l0 k (by omega) x h
      · exact .inr ⟨k, by omega, by rw [List.mem_singleton.1 h]⟩
theorem lN_val (l0 : List KV) : ∀ k, k ≤ 4 → ∀ x ∈ lN l0 uid gid sz mt k, x ∈ l0 ∨ ∃ j, j < 4 ∧ x.2 = itoaS (nN uid gid sz mt j)
  | 0, _, x, hx => .inl hx
  | k + 1, hk, x, hx => by
    rw [lN] at hx
    split at hx
    · exact lN_val l0 k (by omega) x hx
    · rcases List.mem_append.1 hx with h | h
      · exact lN_val l0 k (by omega) x h
      · exact .inr ⟨k, by omega, by rw [List.mem_singleton.1 h]⟩
theorem recs_small (hp : p.size ≤ 5000) (hl : l.size ≤ 5000) (hu : u.size ≤ 5000) (hg : g.size ≤ 5000) (hn : ∀ j, j < 4 → -9223372036854775808 ≤ nN uid gid sz mt j ∧ nN uid gid sz mt j ≤ 9223372036854775807) :
    ∀ x ∈ recsK (lEnt p l u g b uid gid sz mt) 8, x.1.size ≤ 1000000 ∧ x.2.size ≤ 1000000 := by
  intro x hx
  obtain ⟨hm, j, hj, hkey⟩ := recsK_mem _ 8 x hx
  refine ⟨?_, ?_⟩
  · rw [hkey]
    have : ∀ j, j < 8 → (sKey j).size ≤ 1000000 := by decide
    exact this j hj
  · rcases lN_val uid gid sz mt _ 4 (Nat.le_refl _) x hm with h | ⟨i, hi, h⟩
    · rcases lT_val l u g _ 3 (Nat.le_refl _) x h with h | ⟨i, hi, h⟩
      · split at h
        · cases h
        · rw [List.mem_singleton.1 h]; show p.size ≤ _; omega
      · rw [h]
        rcases (by omega : i = 0 ∨ i = 1 ∨ i = 2) with rfl | rfl | rfl
        · show l.size ≤ _; omega
        · show u.size ≤ _; omega
        · show g.size ≤ _; omega
    · rw [h]
      have := itoaS_le (nN uid gid sz mt i) (hn i hi).1 (hn i hi).2
      omega
end
end Go.Proofs.YtpbpfngichfgeaaGreatDoor
