/-
  The laws of package pax, as plain statements on lists.
-/
import Derived.Test.YtcgopeneoignpaaDoorPPaxx1
import Derived.Test.YtcgopeneoignpaaDoorPPaxx2
import Derived.Test.YtcgopeneoignpaaDoorPPaxx3
import Derived.Test.YtcgopeneoignpaaDoorPaxP1
import Derived.Test.YtcgopeneoignpaaDoorPaxP2
namespace Go.Proofs.YtcgopeneoignpaaDoor.PPax
set_option linter.unusedVariables false
set_option linter.unusedSimpArgs false
open Go.RowKit Go.Proofs.YtcgopeneoignpaaDoor Go.Proofs.YtcgopeneoignpaaDoorW.PrintWords Go.Proofs.YtcgopeneoignpaaDoorW.PrintLast Go.Proofs.YtcgopeneoignpaaDoorW.PrintMore

theorem up_ {α : Type} {f : Nat → Option α} (hm : ∀ k, LeO (f k) (f (k + 1))) {k : Nat} {r : α} (h : f k = some r) : ∀ m, f (k + m) = some r
  | 0 => h
  | m + 1 => hm _ _ (up_ hm h m)
theorem up_le {α : Type} {f : Nat → Option α} (hm : ∀ k, LeO (f k) (f (k + 1))) {k n : Nat} {r : α} (h : f k = some r) (hn : k ≤ n) : f n = some r := by
  obtain ⟨m, rfl⟩ : ∃ m, n = k + m := ⟨n - k, by omega⟩
  exact up_ hm h m
theorem records_ok {n : Nat} (hn : 8 ≤ n) : pannierlaw07_records.f n = some true := up_le pannierlaw07_records.mono (k := 8) (by kernel_rfl) hn
theorem numbers_law (s : ByteArray) : ∃ k, pannierlaw07_PaxNumbers.f k s = some true := by
  refine ⟨8, ?_⟩
  unfold pannierlaw07_PaxNumbers.f
  rw [records_ok (by omega)]
  simp only [Option.bind_some, if_true]
  by_cases h : (s.size : Int) > 100
  · rw [if_pos h]
  · rw [if_neg h]
    have hr := numberOf_ref s
    unfold pax_Number.f pannierref07_Number.f
    rw [if_pos (by omega), if_pos (by omega), ← hr]
    cases numberOf s <;> simp

theorem strOf_ints (l : List UInt8) : strOfNums (intsOf l) = ⟨l.toArray⟩ := by
  apply bytes_ext
  rw [strOfNums_data, toList_mk, intsOf, List.map_map]
  conv => rhs; rw [← List.map_id l]
  apply List.map_congr_left
  intro b _
  simp
theorem wrap_ok {n : Int} (h0 : -9223372036854775808 ≤ n) (h1 : n ≤ 9223372036854775807) : wrap64 n = n := by unfold wrap64; omega
theorem toList_nil {s : ByteArray} : s.toList = ([] : List UInt8) ↔ s = ⟨#[]⟩ := by rw [← str_empty]; simp
theorem rdT (l : List S45) (i : Nat) (h : i < l.length) : rd_T45 l (i : Int) = l[i] := by
  show l.getD (i : Int).toNat z45 = _
  simp [h]
/-- What is written is read: behind what was read already. -/
theorem decode_enc (l : List S45) : ∀ (acc : List S45) (rest : List UInt8) (k : Nat), chkL (recOf l) = 0 → acc.length + l.length ≤ 64 → (encL (recOf l)).length + rest.length < 4294967281 →
    pax_Decode.l0 (k + l.length) acc ⟨(encL (recOf l) ++ rest).toArray⟩ = pax_Decode.l0 k (acc ++ l) ⟨rest.toArray⟩ := by
  induction l with
  | nil => intro acc rest k _ _ _; simp [recOf, encL]
  | cons x l ih =>
    intro acc rest k hc hl hr
    have hcx : chkOf x.f0 x.f1 = 0 := by
      simp only [recOf, List.map_cons, chkL] at hc
      split at hc
      · assumption
      · exact hc
    have hcl : chkL (recOf l) = 0 := by
      simp only [recOf, List.map_cons, chkL, if_pos hcx] at hc
      exact hc
    simp only [List.length_cons] at hl
    have e : k + (x :: l).length = (k + l.length) + 1 := by simp; omega
    rw [e, pax_Decode.l0]
    have henc : encL (recOf (x :: l)) ++ rest = (recT x.f0 x.f1).data.toList ++ (encL (recOf l) ++ rest) := by simp [recOf, encL]
    obtain ⟨h1, h2, h3⟩ := chk_zero hcx
    have hlen := lenFacts (n := x.f0.size + x.f1.size + 3) (by omega)
    have hne : ¬ (⟨(encL (recOf (x :: l)) ++ rest).toArray⟩ : ByteArray).toList = ([] : List UInt8) := by
      rw [toList_nil]
      intro h
      have := congrArg (·.data.toList) h
      simp only [toList_mk] at this
      rw [henc, recT_list x.f0 x.f1 _ rfl] at this
      simp at this
    have h64 : ¬ (acc.length : Int) = 64 := by omega
    rw [if_neg hne, if_neg h64]
    have hsz : (⟨(encL (recOf (x :: l)) ++ rest).toArray⟩ : ByteArray).size < 4294967281 := by rw [Lib.size_eq, toList_mk, List.length_append]; exact hr
    have hr2 : (encL (recOf l)).length + rest.length < 4294967281 := by
      have := congrArg List.length henc
      simp only [List.length_append] at this
      omega
    unfold pax_one.f
    rw [if_pos hsz, one_rec x.f0 x.f1 (encL (recOf l) ++ rest) _ (by rw [toList_mk, henc]) hcx]
    simp only [Option.bind_some, if_true]
    rw [if_pos (by omega), ih (acc ++ [x]) rest k hcl (by simp; omega) hr2]
    simp
theorem encL_small (l : List S45) (h : chkL (recOf l) = 0) (hl : l.length ≤ 64) : (encL (recOf l)).length ≤ 264000 := by
  have hr : ∀ r ∈ recOf l, (recT r.1 r.2).size ≤ 4125 := by
    induction l with
    | nil => intro r hr; simp [recOf] at hr
    | cons x l ih =>
      have hcx : chkOf x.f0 x.f1 = 0 := by
        simp only [recOf, List.map_cons, chkL] at h
        split at h
        · assumption
        · exact h
      have hcl : chkL (recOf l) = 0 := by
        simp only [recOf, List.map_cons, chkL, if_pos hcx] at h
        exact h
      intro r hr
      simp only [recOf, List.map_cons, List.mem_cons] at hr
      rcases hr with rfl | hr
      · obtain ⟨h1, h2, h3⟩ := chk_zero hcx
        have hf := lenFacts (n := x.f0.size + x.f1.size + 3) (by omega)
        rw [Lib.size_eq, recT_list x.f0 x.f1 _ rfl]
        simp only [List.length_append, List.length_cons, List.length_nil, ← Lib.size_eq]
        have := hf.le
        omega
      · exact ih hcl (by simp at hl; omega) r hr
  have := encL_le hr
  have hm : (recOf l).length = l.length := by simp [recOf]
  rw [hm] at this
  have := Nat.mul_le_mul_right 4125 hl
  omega
theorem decode_all (l : List S45) (h : chkL (recOf l) = 0) (hl : l.length ≤ 64) {k : Nat} (hk : l.length + 1 ≤ k) : pax_Decode.f k (intsOf (encL (recOf l))) = some (l, 0) := by
  obtain ⟨m, rfl⟩ : ∃ m, k = (m + 1) + l.length := ⟨k - l.length - 1, by omega⟩
  have := encL_small l h hl
  have hd := decode_enc l [] [] (m + 1) h (by simpa using hl) (by simp; omega)
  rw [List.append_nil] at hd
  unfold pax_Decode.f
  rw [strOf_ints, hd, pax_Decode.l0, if_pos (toList_nil.2 rfl)]
  simp
theorem chkL_append (a b : List Rec) : chkL (a ++ b) = if chkL a = 0 then chkL b else chkL a := by
  induction a with
  | nil => rfl
  | cons x a ih =>
    rw [List.cons_append, chkL, chkL, ih]
    by_cases h : chkOf x.1 x.2 = 0
    · rw [if_pos h, if_pos h]
    · rw [if_neg h, if_neg h, if_neg h]
theorem fits_l0 (l : List S45) (hl : l.length ≤ 70) (d : Nat) : ∀ (k : Nat) (n : Int) (i : Nat), l.length - i = d → i ≤ l.length → d < k → ∃ b, pannierlaw07_fits.l0 k n l (l.length : Int) i = some b ∧ (b = true → ∀ j (hj : j < l.length), i ≤ j → l[j].f0.size ≤ 5000 ∧ l[j].f1.size ≤ 5000) := by
  induction d with
  | zero =>
    intro k n i hd hi hk
    obtain ⟨k, rfl⟩ : ∃ m, k = m + 1 := ⟨k - 1, by omega⟩
    refine ⟨true, ?_, fun _ j hj h => by omega⟩
    simp only [pannierlaw07_fits.l0]
    rw [if_neg (by omega)]
  | succ d ih =>
    intro k n i hd hi hk
    obtain ⟨k, rfl⟩ : ∃ m, k = m + 1 := ⟨k - 1, by omega⟩
    have hlt : i < l.length := by omega
    simp only [pannierlaw07_fits.l0]
    rw [if_pos (by omega), if_pos (by omega), if_pos (by omega), rdT l i hlt]
    by_cases h1 : ((l[i].f0.size : Int) > 5000)
    · rw [if_pos h1]; exact ⟨false, rfl, fun h => by cases h⟩
    · rw [if_neg h1]
      by_cases h2 : ((l[i].f1.size : Int) > 5000)
      · rw [if_pos h2]; exact ⟨false, rfl, fun h => by cases h⟩
      · rw [if_neg h2]
        split
        · exact ⟨false, rfl, fun h => by cases h⟩
        · have e : wrap64 ((i : Int) + 1) = ((i + 1 : Nat) : Int) := by rw [wrap_ok (by omega) (by omega)]; omega
          rw [e]
          obtain ⟨b, hb, hbt⟩ := ih k (wrap64 (n + wrap64 ((l[i].f0.size : Int) + (l[i].f1.size : Int)))) (i + 1) (by omega) (by omega) (by omega)
          refine ⟨b, hb, fun h j hj hij => ?_⟩
          rcases Nat.lt_or_ge i j with h3 | h3
          · exact hbt h j hj h3
          · obtain rfl : j = i := by omega
            omega
theorem fits_any (l : List S45) {k : Nat} (hk : 71 < k) : ∃ b, pannierlaw07_fits.f k l = some b ∧ (b = true → l.length ≤ 70 ∧ ∀ x ∈ l, x.f0.size ≤ 5000 ∧ x.f1.size ≤ 5000) := by
  unfold pannierlaw07_fits.f
  by_cases h : (l.length : Int) > 70
  · rw [if_pos h]; exact ⟨false, rfl, fun h => by cases h⟩
  · rw [if_neg h]
    obtain ⟨b, hb, hbt⟩ := fits_l0 l (by omega) l.length k 0 0 (by omega) (by omega) (by omega)
    refine ⟨b, hb, fun hh => ⟨by omega, fun x hx => ?_⟩⟩
    obtain ⟨j, hj, rfl⟩ := List.getElem_of_mem hx
    exact hbt hh j hj (by omega)
theorem encode_f (l : List S45) (h : ∀ x ∈ l, x.f0.size ≤ 5000 ∧ x.f1.size ≤ 5000) : pax_Encode.f l = some (intsOf (encOf (recOf l)).1, (encOf (recOf l)).2) := by
  unfold pax_Encode.f
  rw [if_pos (fun x hx => by have := h x hx; omega)]
theorem encOf_le (l : List S45) (h : l.length ≤ 64) : encOf (recOf l) = if chkL (recOf l) = 0 then (encL (recOf l), 0) else ([], chkL (recOf l)) := by
  unfold encOf
  rw [if_neg (by simp [recOf]; omega)]
theorem rows_law (a b : List S45) : ∃ k, pannierlaw07_PaxRows.f k a b = some true := by
  refine ⟨100, ?_⟩
  unfold pannierlaw07_PaxRows.f
  rw [records_ok (by omega)]
  simp only [Option.bind_some, if_true]
  obtain ⟨b1, h1, t1⟩ := fits_any a (k := 100) (by omega)
  obtain ⟨b2, h2, t2⟩ := fits_any b (k := 100) (by omega)
  rw [h1]
  simp only [Option.bind_some]
  cases b1 with
  | false => rfl
  | true =>
    simp only [if_true]
    rw [h2]
    simp only [Option.bind_some]
    cases b2 with
    | false => rfl
    | true =>
      simp only [if_true]
      obtain ⟨la, sa⟩ := t1 rfl
      obtain ⟨lb, sb⟩ := t2 rfl
      rw [wrap_ok (by omega) (by omega)]
      by_cases h64 : (a.length : Int) + b.length > 64
      · simp only [h64, decide_true]; rfl
      · simp only [h64, decide_false]
        rw [pannierlaw07_PaxRows.j0, if_neg (by decide), encode_f a sa, encode_f b sb]
        simp only [Option.bind_some, List.nil_append, List.length_nil]
        have sab : ∀ x ∈ a ++ b, x.f0.size ≤ 5000 ∧ x.f1.size ≤ 5000 := by
          intro x hx
          rcases List.mem_append.1 hx with h | h
          · exact sa x h
          · exact sb x h
        rw [if_pos (by omega), if_pos (by omega), encode_f (a ++ b) sab]
        simp only [Option.bind_some]
        have hab : recOf (a ++ b) = recOf a ++ recOf b := by simp [recOf]
        rw [encOf_le a (by omega), encOf_le b (by omega), encOf_le (a ++ b) (by simp; omega), hab, chkL_append]
        by_cases ca : chkL (recOf a) = 0
        · simp only [ca, if_true]
          by_cases cb : chkL (recOf b) = 0
          · simp only [cb, if_true]
            have za := encL_small a ca (by omega)
            have zb := encL_small b cb (by omega)
            have li : ∀ l : List UInt8, (intsOf l).length = l.length := fun l => by simp [intsOf]
            have ei : intsOf (encL (recOf a)) ++ intsOf (encL (recOf b)) = intsOf (encL (recOf (a ++ b))) := by simp [intsOf, hab, encL]
            have cab : chkL (recOf (a ++ b)) = 0 := by rw [hab, chkL_append, if_pos ca]; exact cb
            rw [if_pos (by rw [li]; omega), if_pos (by rw [li, li]; omega), ei, decode_all (a ++ b) cab (by simp; omega) (by simp; omega)]
            simp only [Option.bind_some, if_true]
            rw [strOf_ints, strOf_ints, strOf_ints]
            have zz : ∀ l : List UInt8, (⟨l.toArray⟩ : ByteArray).size = l.length := fun l => by simp [ByteArray.size]
            rw [zz, zz, if_pos (by omega)]
            have et : (⟨(encL (recOf a ++ recOf b)).toArray⟩ : ByteArray) = (⟨(encL (recOf a)).toArray⟩ : ByteArray) ++ (⟨(encL (recOf b)).toArray⟩ : ByteArray) := by
              apply bytes_ext
              rw [ByteArray.data_append, Array.toList_append, toList_mk, toList_mk, toList_mk]
              simp [encL]
            rw [et, if_pos rfl, wrap_ok (by omega) (by omega)]
            simp
          · simp only [cb, if_false]
            simp [cb]
        · simp only [ca, if_false]
          simp [ca]
/-- The value of the last record among the first that has the key. -/
def upT (l : List S45) (key : ByteArray) : Nat → ByteArray × Bool
  | 0 => (⟨#[]⟩, false)
  | i + 1 => if h : i < l.length then if (l[i].f0).toList = key.toList then (l[i].f1, true) else upT l key i else upT l key i
theorem get_l0 (l : List S45) (key : ByteArray) (hl : l.length ≤ 70) : ∀ (j k : Nat), j < k → j ≤ l.length → pax_Get.l0 k l key ((j : Int) - 1) = some (upT l key j)
  | 0, k, hk, _ => by
    obtain ⟨k, rfl⟩ : ∃ m, k = m + 1 := ⟨k - 1, by omega⟩
    simp only [pax_Get.l0]
    rw [if_neg (by omega)]
    rfl
  | j + 1, k, hk, hj => by
    obtain ⟨k, rfl⟩ : ∃ m, k = m + 1 := ⟨k - 1, by omega⟩
    have e : (((j + 1 : Nat) : Int) - 1) = (j : Int) := by omega
    simp only [pax_Get.l0, e]
    rw [if_pos (by omega), if_pos (by omega), if_pos (by omega), rdT l j (by omega), upT, dif_pos (show j < l.length by omega)]
    by_cases h : (l[j].f0).toList = key.toList
    · rw [if_pos h, if_pos h]
    · rw [if_neg h, if_neg h, wrap_ok (by omega) (by omega)]
      exact get_l0 l key hl j k (by omega) (by omega)
theorem gets_l0 (l : List S45) (key v : ByteArray) (ok : Bool) (hl : l.length ≤ 70) (d : Nat) : ∀ (k i : Nat), l.length - i = d → i ≤ l.length → d < k →
    pannierlaw07_PaxGets.l0 k key v ok (upT l key i).1 (upT l key i).2 l (l.length : Int) i = if v.toList = (upT l key l.length).1.toList then some (ok == (upT l key l.length).2) else some false := by
  induction d with
  | zero =>
    intro k i hd hi hk
    obtain ⟨k, rfl⟩ : ∃ m, k = m + 1 := ⟨k - 1, by omega⟩
    obtain rfl : i = l.length := by omega
    simp only [pannierlaw07_PaxGets.l0]
    rw [if_neg (by omega)]
  | succ d ih =>
    intro k i hd hi hk
    obtain ⟨k, rfl⟩ : ∃ m, k = m + 1 := ⟨k - 1, by omega⟩
    have hlt : i < l.length := by omega
    simp only [pannierlaw07_PaxGets.l0]
    rw [if_pos (by omega), if_pos (by omega), if_pos (by omega), rdT l i hlt]
    have e : wrap64 ((i : Int) + 1) = ((i + 1 : Nat) : Int) := by rw [wrap_ok (by omega) (by omega)]; omega
    rw [e, ← ih k (i + 1) (by omega) (by omega) (by omega), upT, dif_pos hlt]
    by_cases h : (l[i].f0).toList = key.toList
    · rw [if_pos h, if_pos h]
    · rw [if_neg h, if_neg h]
theorem gets_law (l : List S45) (key : ByteArray) : ∃ k, pannierlaw07_PaxGets.f k l key = some true := by
  refine ⟨100, ?_⟩
  unfold pannierlaw07_PaxGets.f
  rw [records_ok (by omega)]
  simp only [Option.bind_some, if_true]
  obtain ⟨b1, h1, t1⟩ := fits_any l (k := 100) (by omega)
  rw [h1]
  simp only [Option.bind_some]
  cases b1 with
  | false => rfl
  | true =>
    simp only [if_true]
    obtain ⟨la, _⟩ := t1 rfl
    unfold pax_Get.f
    rw [wrap_ok (by omega) (by omega), get_l0 l key la l.length 100 (by omega) (by omega)]
    simp only [Option.bind_some]
    have := gets_l0 l key (upT l key l.length).1 (upT l key l.length).2 la l.length 100 0 (by omega) (by omega) (by omega)
    simp only [upT] at this
    rw [Int.natCast_zero] at this
    rw [this]
    simp
def recAB : S45 := ⟨⟨#[97]⟩, ⟨#[98]⟩⟩
theorem recAB_text : (recT ⟨#[97]⟩ ⟨#[98]⟩).data.toList = [54, 32, 97, 61, 98, 10] := by kernel_rfl
theorem recAB_chk : chkOf ⟨#[97]⟩ ⟨#[98]⟩ = 0 := by kernel_rfl
theorem encAB (i : Nat) : intsOf (encL (recOf (List.replicate (i + 1) recAB))) = intsOf (encL (recOf (List.replicate i recAB))) ++ bytesOf (⟨#[54, 32, 97, 61, 98, 10]⟩ : ByteArray) := by
  rw [List.replicate_succ']
  simp only [recOf, List.map_append, List.map_cons, List.map_nil, encL, List.flatten_append, List.flatten_cons, List.flatten_nil, List.append_nil, recAB, recAB_text, intsOf]
  rfl
theorem chkAB (i : Nat) : chkL (recOf (List.replicate i recAB)) = 0 := by
  induction i with
  | zero => rfl
  | succ i ih =>
    rw [List.replicate_succ]
    simp only [recOf, List.map_cons, chkL]
    rw [if_pos (show chkOf recAB.f0 recAB.f1 = 0 from recAB_chk)]
    exact ih
theorem lenAB (i : Nat) : (intsOf (encL (recOf (List.replicate i recAB)))).length = 6 * i := by
  induction i with
  | zero => rfl
  | succ i ih => rw [encAB, List.length_append, ih]; show 6 * i + 6 = _; omega
theorem decAB (n : Nat) (hn : n ≤ 70) (h : 64 < n) {k : Nat} (hk : 66 ≤ k) : pax_Decode.f k (intsOf (encL (recOf (List.replicate n recAB)))) = some ([], 2) := by
  obtain ⟨m, rfl⟩ : ∃ m, n = 64 + (m + 1) := ⟨n - 65, by omega⟩
  have hl : (List.replicate 64 recAB).length = 64 := by simp
  obtain ⟨k, rfl⟩ : ∃ j, k = (j + 1) + (List.replicate 64 recAB).length := ⟨k - 65, by simp; omega⟩
  have z1 := encL_small (List.replicate 64 recAB) (chkAB 64) (by simp)
  have z2 := encL_small (List.replicate (m + 1) recAB) (chkAB (m + 1)) (by simp; omega)
  have hs : encL (recOf (List.replicate (64 + (m + 1)) recAB)) = encL (recOf (List.replicate 64 recAB)) ++ encL (recOf (List.replicate (m + 1) recAB)) := by
    rw [← List.replicate_append_replicate]
    simp [recOf, encL]
  have hd := decode_enc (List.replicate 64 recAB) [] (encL (recOf (List.replicate (m + 1) recAB))) (k + 1) (chkAB 64) (by simp) (by omega)
  unfold pax_Decode.f
  rw [strOf_ints, hs, hd, pax_Decode.l0, if_neg ?_, if_pos (by simp)]
  rw [toList_nil]
  intro h
  have := congrArg (fun b => b.data.toList.length) h
  simp only [toList_mk] at this
  have h6 := lenAB (m + 1)
  simp [intsOf] at h6
  rw [h6] at this
  simp at this
theorem z_chk (n : Nat) (h : 1 ≤ n) : chkL (recOf (List.replicate n z45)) = 70 := by
  obtain ⟨m, rfl⟩ : ∃ m, n = m + 1 := ⟨n - 1, by omega⟩
  rw [List.replicate_succ]
  simp only [recOf, List.map_cons, chkL]
  rw [if_neg (by decide)]
  rfl
theorem many_l0 (n : Nat) (hn : 60 ≤ n) (hn2 : n ≤ 70) (d : Nat) : ∀ (k i : Nat), n - i = d → i ≤ n → d + 80 ≤ k → pannierlaw07_PaxMany.l0 k (n : Int) (intsOf (encL (recOf (List.replicate i recAB)))) (n : Int) (i : Int) = some true := by
  induction d with
  | zero =>
    intro k i hd hi hk
    obtain ⟨k, rfl⟩ : ∃ m, k = m + 1 := ⟨k - 1, by omega⟩
    obtain rfl : i = n := by omega
    simp only [pannierlaw07_PaxMany.l0]
    rw [if_neg (by omega)]
    have hz : ∀ x ∈ List.replicate i z45, x.f0.size ≤ 5000 ∧ x.f1.size ≤ 5000 := by
      intro x hx
      rw [(List.mem_replicate.1 hx).2]
      exact ⟨by decide, by decide⟩
    have hzl : (recOf (List.replicate i z45)).length = i := by simp [recOf]
    have e : ((i : Nat) : Int).toNat = i := by omega
    by_cases h : 64 < i
    · rw [decAB i hn2 h (by omega)]
      simp only [Option.bind_some, e]
      rw [if_pos (by omega), if_pos (by omega), encode_f _ hz]
      simp only [Option.bind_some]
      rw [if_pos (by omega), if_pos trivial]
      have : (encOf (recOf (List.replicate i z45))).2 = 2 := by unfold encOf; rw [if_pos (by rw [hzl]; exact h)]
      rw [this]
      rfl
    · rw [decode_all (List.replicate i recAB) (chkAB i) (by simp; omega) (by simp; omega)]
      simp only [Option.bind_some, e]
      rw [if_pos (by omega), if_pos (by omega), encode_f _ hz]
      simp only [Option.bind_some]
      rw [if_neg (by omega), if_pos trivial, if_pos (by simp)]
      have : (encOf (recOf (List.replicate i z45))).2 = 70 := by unfold encOf; rw [if_neg (by rw [hzl]; exact h), z_chk i (by omega), if_neg (by decide)]
      rw [this]
      rfl
  | succ d ih =>
    intro k i hd hi hk
    obtain ⟨k, rfl⟩ : ∃ m, k = m + 1 := ⟨k - 1, by omega⟩
    simp only [pannierlaw07_PaxMany.l0]
    have e : wrap64 ((i : Int) + 1) = ((i + 1 : Nat) : Int) := by rw [wrap_ok (by omega) (by omega)]; omega
    rw [if_pos (by omega), if_pos (by rw [lenAB]; omega), e, ← encAB]
    exact ih k (i + 1) (by omega) (by omega) (by omega)
theorem many_law (n : Int) : ∃ k, pannierlaw07_PaxMany.f k n = some true := by
  refine ⟨200, ?_⟩
  unfold pannierlaw07_PaxMany.f
  rw [records_ok (by omega)]
  simp only [Option.bind_some, if_true]
  by_cases h : n < 60
  · rw [if_pos h, pannierlaw07_PaxMany.j0, if_pos rfl]
  · rw [if_neg h]
    by_cases h2 : n > 70
    · simp only [h2, decide_true]; rw [pannierlaw07_PaxMany.j0, if_pos rfl]
    · simp only [h2, decide_false]
      rw [pannierlaw07_PaxMany.j0, if_neg (by decide)]
      obtain ⟨m, rfl⟩ : ∃ m : Nat, n = (m : Int) := ⟨n.toNat, by omega⟩
      exact many_l0 m (by omega) (by omega) m 199 0 (by omega) (by omega) (by omega)
/-- What the loop over a key's bytes ends in. -/
def chkEnd (e : Int) (bad : Bool) (key val : ByteArray) : Option Bool :=
  if bad = true then some (e == 70) else if wrap64 ((key.size : Int) + (val.size : Int)) > 4096 then some (e == 2) else (pax_Encode.f [(⟨key, val⟩ : S45)]).bind fun b => if e = 0 then some (b.2 == 0) else some false
theorem checks_l0 (key val : ByteArray) (e : Int) (hs : key.size ≤ 6000) (d : Nat) : ∀ (k i : Nat) (bad : Bool), key.size - i = d → i ≤ key.size → d < k →
    pannierlaw07_PaxChecks.l0 k e bad (key.size : Int) i key val = chkEnd e (bad || (key.data.toList.drop i).any (fun b => b == 61 || b == 0 || b == 10)) key val := by
  induction d with
  | zero =>
    intro k i bad hd hi hk
    obtain ⟨k, rfl⟩ : ∃ m, k = m + 1 := ⟨k - 1, by omega⟩
    obtain rfl : i = key.size := by omega
    simp only [pannierlaw07_PaxChecks.l0]
    rw [if_neg (by omega), List.drop_of_length_le (by rw [← Lib.size_eq]; omega)]
    simp only [List.any_nil, Bool.or_false]
    rfl
  | succ d ih =>
    intro k i bad hd hi hk
    obtain ⟨k, rfl⟩ : ∃ m, k = m + 1 := ⟨k - 1, by omega⟩
    have hlt : i < key.size := by omega
    have e1 : wrap64 ((i : Int) + 1) = ((i + 1 : Nat) : Int) := by rw [wrap_ok (by omega) (by omega)]; omega
    have hb : bt key (i : Int) = ((key[i]'hlt).toNat : Int) := by
      unfold bt
      simp [hlt]
    have hdr := drop_at key i hlt
    simp only [pannierlaw07_PaxChecks.l0]
    rw [if_pos (by omega), hdr, List.any_cons, e1]
    cases bad with
    | true =>
      simp only [if_true]
      rw [ih k (i + 1) true (by omega) (by omega) (by omega)]
      simp
    | false =>
      rw [if_neg (by decide), if_pos (by omega), if_pos (by omega), hb]
      have t61 : (((key[i]'hlt).toNat : Int) = 61) ↔ (key[i]'hlt) = 61 := ⟨fun h => UInt8.toNat_inj.1 (by exact_mod_cast h), fun h => by rw [h]; rfl⟩
      have t0 : (((key[i]'hlt).toNat : Int) = 0) ↔ (key[i]'hlt) = 0 := ⟨fun h => UInt8.toNat_inj.1 (by exact_mod_cast h), fun h => by rw [h]; rfl⟩
      have t10 : ((((key[i]'hlt).toNat : Int)) == 10) = ((key[i]'hlt) == 10) := by
        rw [Bool.eq_iff_iff, beq_iff_eq, beq_iff_eq]
        exact ⟨fun h => UInt8.toNat_inj.1 (by exact_mod_cast h), fun h => by rw [h]; rfl⟩
      by_cases h61 : (key[i]'hlt) = 61
      · rw [if_pos (t61.2 h61), ih k (i + 1) true (by omega) (by omega) (by omega)]
        simp [h61]
      · rw [if_neg (fun h => h61 (t61.1 h))]
        by_cases h0 : (key[i]'hlt) = 0
        · rw [if_pos (t0.2 h0), ih k (i + 1) true (by omega) (by omega) (by omega)]
          simp [h0]
        · rw [if_neg (fun h => h0 (t0.1 h)), t10, ih k (i + 1) _ (by omega) (by omega) (by omega)]
          have q61 : ((key[i]'hlt) == 61) = false := beq_eq_false_iff_ne.2 h61
          have q0 : ((key[i]'hlt) == 0) = false := beq_eq_false_iff_ne.2 h0
          rw [q61, q0]
          simp
theorem checks_law (key val : ByteArray) : ∃ k, pannierlaw07_PaxChecks.f k key val = some true := by
  refine ⟨6010, ?_⟩
  unfold pannierlaw07_PaxChecks.f
  rw [records_ok (by omega)]
  simp only [Option.bind_some, if_true]
  by_cases h : (key.size : Int) > 6000
  · rw [if_pos h, pannierlaw07_PaxChecks.j0, if_pos rfl]
  · rw [if_neg h]
    by_cases h2 : (val.size : Int) > 6000
    · simp only [h2, decide_true]; rw [pannierlaw07_PaxChecks.j0, if_pos rfl]
    · simp only [h2, decide_false]
      rw [pannierlaw07_PaxChecks.j0, if_neg (by decide)]
      unfold pax_Check.f
      rw [if_pos (by omega)]
      simp only [Option.bind_some]
      have hl := checks_l0 key val (chkOf key val) (by omega) key.size 6009 0 (key.toList == ([] : List UInt8)) (by omega) (by omega) (by omega)
      rw [Int.natCast_zero] at hl
      rw [hl, List.drop_zero]
      have hbk : (key.data.toList.any fun b => b == 61 || b == 0 || b == 10) = badKey key := rfl
      rw [hbk]
      unfold chkEnd
      by_cases he : key = ⟨#[]⟩
      · have : (key.toList == ([] : List UInt8)) = true := by rw [beq_iff_eq]; exact toList_nil.2 he
        rw [this, Bool.true_or, if_pos rfl, chkOf, if_pos he]
        rfl
      · have : (key.toList == ([] : List UInt8)) = false := by
          rw [beq_eq_false_iff_ne]; intro h; exact he (toList_nil.1 h)
        rw [this, Bool.false_or]
        by_cases hb : badKey key = true
        · rw [if_pos hb, chkOf, if_neg he, if_pos hb]; rfl
        · rw [if_neg hb, wrap_ok (by omega) (by omega)]
          by_cases hz : 4096 < key.size + val.size
          · rw [if_pos (by omega), chkOf, if_neg he, if_neg hb, if_pos hz]; rfl
          · rw [if_neg (by omega)]
            have hc : chkOf key val = 0 := by rw [chkOf, if_neg he, if_neg hb, if_neg hz]
            rw [encode_f _ (by intro x hx; simp at hx; subst hx; simp only; omega), encOf_le _ (by simp), hc]
            have : chkL (recOf [(⟨key, val⟩ : S45)]) = 0 := by simp [recOf, chkL, hc]
            rw [this]
            simp
end Go.Proofs.YtcgopeneoignpaaDoor.PPax
