/-
 What push's small functions compute is what XPushV says: head.Blank, head.text, octal.Parse, sum.Right, kind.Class, entry.Pad, pax.Decode (plain).
-/
import Derived.Test.YtpbpfngichfgeaaGreatDoorPuaR
import Derived.Test.YtpbpfngichfgeaaGreatDoorPaxes
import Derived.Lib.IndexLaws
namespace Go.Proofs.YtpbpfngichfgeaaGreatDoor.PPua
set_option linter.unusedVariables false
set_option linter.unusedSimpArgs false
open Go Go.RowKit Go.Proofs.YtpbpfngichfgeaaGreatDoor Go.Proofs.YtpbpfngichfgeaaGreatDoorW.PrintWords Go.Proofs.YtpbpfngichfgeaaGreatDoorW.PrintLast Go.Proofs.YtpbpfngichfgeaaGreatDoorW.PrintMore

theorem wrapI (n : Int) (h : -9223372036854775808 ≤ n ∧ n ≤ 9223372036854775807) : wrap64 n = n := by unfold wrap64; omega
theorem wrapN (i : Nat) (h : i ≤ 1000000) : wrap64 ((i : Int) + 1) = ((i + 1 : Nat) : Int) := by rw [wrapI _ (by omega)]; omega
theorem blank_l0 (x : List Int) (hx : x.length ≤ 1000000) (K : Nat) : ∀ m i, i + m = x.length → head_Blank.l0 (K + m + 1) x x (x.length : Int) (i : Nat) = some ((x.drop i).all (· == 0) && decide (x.length = 512))
  | 0, i, h => by
    rw [head_Blank.l0, if_neg (by omega), List.drop_eq_nil_of_le (by omega)]
    simp only [List.all_nil, Bool.true_and]
    congr 1
    rw [Bool.eq_iff_iff, beq_iff_eq, decide_eq_true_eq]
    omega
  | m + 1, i, h => by
    rw [show K + (m + 1) + 1 = (K + m + 1) + 1 by omega, head_Blank.l0, if_pos (by omega), if_pos (by omega), if_pos (by omega), drop_rd (show i < x.length by omega), List.all_cons]
    by_cases h0 : rd x i = 0
    · rw [if_pos h0, wrapN i (by omega), blank_l0 x hx K m (i + 1) (by omega), h0]
      simp
    · rw [if_neg h0]
      have : (rd x i == 0) = false := by simpa using h0
      rw [this]; simp
theorem blank_val (x : List Int) (hx : x.length ≤ 1000000) : head_Blank.f (x.length + 1) x = some (blankV x) := by
  have := blank_l0 x hx 0 x.length 0 (by omega)
  simp only [Nat.zero_add, List.drop_zero] at this
  exact this
theorem toNums {l : List Int} (h : ∀ x ∈ l, 0 ≤ x ∧ x < 256) (c : UInt8) (hc : c.toNat = 0) : ∀ (a : List Int), (∀ x ∈ a, 0 ≤ x ∧ x < 256) → ((a.map fun n => UInt8.ofNat n.toNat).takeWhile (· != c)) = (a.takeWhile (· != 0)).map fun n => UInt8.ofNat n.toNat
  | [], _ => rfl
  | x :: a, hx => by
    have h0 := hx x (by simp)
    have e : (UInt8.ofNat x.toNat != c) = (x != 0) := by
      rw [Bool.eq_iff_iff, bne_iff_ne, bne_iff_ne]
      constructor
      · rintro h1 rfl; exact h1 (UInt8.toNat_inj.1 (by rw [hc]; rfl))
      · rintro h1 rfl
        rw [UInt8.toNat_ofNat'] at hc
        omega
    simp only [List.map_cons, List.takeWhile_cons, e]
    split
    · rw [List.map_cons, toNums h c hc a (fun y hy => hx y (by simp [hy]))]
    · rfl
theorem cut_takeWhile (c : UInt8) (a : List UInt8) : (Lib.cut a [c]).1 = a.takeWhile (· != c) := by
  by_cases hm : c ∈ a
  · obtain ⟨pa, pb, rfl, hn⟩ := List.eq_append_cons_of_mem hm
    have h1 : ∀ b ∈ pa, b ≠ c := fun b hb e => hn (e ▸ hb)
    rw [cut_at h1, List.takeWhile_append_of_pos (fun b hb => by simpa using h1 b hb)]
    simp
  · have h1 : ∀ b ∈ a, b ≠ c := fun b hb e => hm (e ▸ hb)
    rw [cut_not h1]
    have := List.takeWhile_append_of_pos (p := (· != c)) (l₁ := a) (l₂ := []) (fun b hb => by simpa using h1 b hb)
    simpa using this.symm
theorem text_val (x : List Int) (hx : x.length ≤ 1000000) (hb : ∀ y ∈ x, 0 ≤ y ∧ y < 256) : head_text.f x = some (textZ x) := by
  unfold head_text.f strings_Cut.f
  have hs : (strOfNums x).size = x.length := by simp [strOfNums, ByteArray.size]
  rw [if_pos (by omega), Option.bind_some]
  congr 1
  unfold textZ
  have h1 : (strOfNums x).data.toList = x.map fun n => UInt8.ofNat n.toNat := rfl
  have h2 : (⟨#[0]⟩ : ByteArray).data.toList = [0] := rfl
  simp only [h1, h2]
  rw [cut_takeWhile, toNums hb 0 rfl x hb]
  rfl
theorem parse_l2 (x : List Int) (hx : x.length ≤ 1000000) (n : Int) (K : Nat) : ∀ m i, i + m = x.length → octal_Parse.l2 (K + m + 1) x (i : Nat) n = some (if (x.drop i).all (fun b => b == 0 || b == 32) = true then (n, 0) else (0, 20))
  | 0, i, h => by
    rw [octal_Parse.l2, if_neg (by omega), List.drop_eq_nil_of_le (by omega)]
    rfl
  | m + 1, i, h => by
    rw [show K + (m + 1) + 1 = (K + m + 1) + 1 by omega, octal_Parse.l2, if_pos (by omega), if_pos (by omega), drop_rd (show i < x.length by omega), List.all_cons]
    have ih := parse_l2 x hx n K m (i + 1) (by omega)
    rw [wrapN i (by omega)]
    by_cases h0 : rd x i = 0
    · rw [if_pos h0, ih, h0]; simp
    · rw [if_neg h0]
      by_cases h1 : rd x i = 32
      · rw [if_pos h1, ih, h1]; simp
      · rw [if_neg h1]
        have e : (rd x i == 0 || rd x i == 32) = false := by simp [h0, h1]
        rw [e]; simp
def octR (o : Option (Int × List Int)) : Int × Int := match o with
  | none => (0, 20)
  | some (n, r) => if r.all (fun b => b == 0 || b == 32) = true then (n, 0) else (0, 20)
theorem parse_l1 (x : List Int) (hx : x.length ≤ 1000000) (K : Nat) : ∀ m i n, i + m = x.length → 0 ≤ n → n ≤ 9223372036854775807 → octal_Parse.l1 (K + 2 * m + 3) x (i : Nat) n = some (octR (digV n (x.drop i)))
  | 0, i, n, h, h0, h1 => by
    rw [show K + 2 * 0 + 3 = ((K + 1) + 1) + 1 by omega, octal_Parse.l1, if_neg (by omega), octal_Parse.j4, if_neg (by decide)]
    rw [show K + 1 = K + 0 + 1 by omega, parse_l2 x hx n K 0 i (by omega), List.drop_eq_nil_of_le (by omega)]
    rfl
  | m + 1, i, n, h, h0, h1 => by
    rw [show K + 2 * (m + 1) + 3 = ((K + 2 * m + 3) + 1) + 1 by omega, octal_Parse.l1, if_pos (by omega), if_pos (by omega)]
    have hd := drop_rd (show i < x.length by omega)
    have no : ∀ (hq : ¬ (48 ≤ rd x i ∧ rd x i ≤ 55)), octal_Parse.j4 (K + 2 * m + 3 + 1) x (i : Nat) n false = some (octR (digV n (x.drop i))) := by
      intro hq
      rw [octal_Parse.j4, if_neg (by decide), show K + 2 * m + 3 = (K + m + 1) + (m + 1) + 1 by omega, parse_l2 x hx n _ (m + 1) i (by omega), hd, digV, if_neg hq]
      rfl
    by_cases h48 : rd x i ≥ 48
    · rw [if_pos h48]
      by_cases h55 : rd x i ≤ 55
      · have hdig : digV n (x.drop i) = if 1152921504606846976 ≤ n then none else digV (8 * n + (rd x i - 48)) (x.drop (i + 1)) := by rw [hd, digV, if_pos ⟨h48, h55⟩]
        rw [decide_eq_true h55, octal_Parse.j4, if_pos rfl, hdig]
        by_cases hn : n ≥ 1152921504606846976
        · rw [if_pos hn, if_pos hn]; rfl
        · rw [if_neg hn, if_neg hn, if_pos (by omega), if_pos (by omega), wrapN i (by omega)]
          have e1 : (rd x i - 48) % 256 = rd x i - 48 := by omega
          rw [e1, wrapI (8 * n) (by omega), wrapI _ (by omega)]
          exact parse_l1 x hx K m (i + 1) _ (by omega) (by omega) (by omega)
      · rw [decide_eq_false h55]; exact no (by omega)
    · rw [if_neg h48]; exact no (by omega)
theorem parse_l0 (x : List Int) (hx : x.length ≤ 1000000) (K : Nat) : ∀ m i, i + m = x.length → octal_Parse.l0 (K + 2 * m + 5) x (i : Nat) = some (octT (x.drop i))
  | 0, i, h => by
    rw [show K + 2 * 0 + 5 = ((K + 2 * 0 + 3) + 1) + 1 by omega, octal_Parse.l0, if_neg (by omega), octal_Parse.j2, parse_l1 x hx K 0 i 0 (by omega) (by omega) (by omega), List.drop_eq_nil_of_le (by omega)]
    rfl
  | m + 1, i, h => by
    have hd := drop_rd (show i < x.length by omega)
    rw [show K + 2 * (m + 1) + 5 = (K + 1 + 2 * m + 5) + 1 by omega, octal_Parse.l0, if_pos (by omega), if_pos (by omega)]
    by_cases h0 : rd x i = 32
    · rw [if_pos h0, wrapN i (by omega), parse_l0 x hx (K + 1) m (i + 1) (by omega), hd, h0]
      rfl
    · rw [if_neg h0, show K + 1 + 2 * m + 5 = (K + 2 * (m + 1) + 3) + 1 by omega, octal_Parse.j2, parse_l1 x hx K (m + 1) i 0 (by omega) (by omega) (by omega), hd]
      have e : (rd x i == 32) = false := by simpa using h0
      unfold octT
      rw [List.dropWhile_cons, e]
      rfl
theorem parse_val (x : List Int) (hx : x.length ≤ 1000000) (h2 : 2 ≤ x.length) (hb : ∀ y ∈ x, 0 ≤ y ∧ y < 256) (K : Nat) : octal_Parse.f (K + 2 * x.length + 6) x = some (octV x) := by
  unfold octal_Parse.f
  rw [if_pos (by omega), if_pos (by omega)]
  match x, h2, hx, hb with
  | f :: g :: r, _, hx, hb =>
    have e0 : rd (f :: g :: r) 0 = f := rfl
    rw [e0, show K + 2 * (f :: g :: r).length + 6 = (K + 2 * (f :: g :: r).length + 5) + 1 by omega, octal_Parse.j0]
    by_cases h : 128 ≤ f
    · rw [if_pos (by simpa using h)]
      simp only [octal_binary.f]
      rw [if_pos ⟨bytesB_mk (fun y hy => hb y (by simp at hy ⊢; exact .inr hy)), by simp, by simp at hx ⊢; omega⟩, Option.bind_some]
      have e : octV (f :: g :: r) = if 128 ≤ f then (if f = 128 then binV 0 (g :: r) else if f = 255 then binV (-1) (g :: r) else (0, 20)) else octT (f :: g :: r) := rfl
      rw [e, if_pos h]
      rfl
    · rw [if_neg (by simpa using h)]
      have := parse_l0 (f :: g :: r) hx K (f :: g :: r).length 0 (by omega)
      rw [List.drop_zero] at this
      have e : octV (f :: g :: r) = if 128 ≤ f then (if f = 128 then binV 0 (g :: r) else if f = 255 then binV (-1) (g :: r) else (0, 20)) else octT (f :: g :: r) := rfl
      rw [e, if_neg h]
      exact this
theorem fld_range {b : List Int} (h : ∀ y ∈ b, 0 ≤ y ∧ y < 256) (i j : Nat) : ∀ y ∈ fldL b i j, 0 ≤ y ∧ y < 256 := fun y hy => h y (List.mem_of_mem_drop (List.mem_of_mem_take hy))
theorem fld_len {b : List Int} {i j : Nat} (h : i ≤ j) (hj : j ≤ b.length) : (fldL b i j).length = j - i := by unfold fldL; rw [List.length_take, List.length_drop]; omega
theorem fld_mid (b : List Int) (i j : Nat) : (b.take j).drop i = fldL b i j := by unfold fldL; rw [List.drop_take]
theorem right_val (b : List Int) (hl : b.length = 512) (hb : ∀ y ∈ b, 0 ≤ y ∧ y < 256) (K : Nat) : sum_Right.f (K + 22) b = some (rightV b) := by
  unfold sum_Right.f
  rw [if_pos (by omega), if_pos (by omega), if_pos (by omega), fld_mid]
  have hlen : (fldL b 148 156).length = 8 := fld_len (by omega) (by omega)
  have hp := parse_val (fldL b 148 156) (by omega) (by omega) (fld_range hb 148 156) K
  rw [hlen] at hp
  rw [hp, Option.bind_some]
  unfold rightV
  have hd : decide (b.length = 512) = true := decide_eq_true hl
  rw [hd]
  have hP : sum_Plain.f b = some (psum b 512) := by unfold sum_Plain.f; rw [if_pos ⟨bytesB_mk hb, by omega, by omega⟩, hl]
  have hS : sum_Signed.f b = some (ssum b 512) := by unfold sum_Signed.f; rw [if_pos ⟨bytesB_mk hb, by omega, by omega⟩, hl]
  rw [hP, hS]
  by_cases h0 : (octV (fldL b 148 156)).2 = 0
  · rw [if_pos h0, decide_eq_true h0, Option.bind_some]
    by_cases h1 : (octV (fldL b 148 156)).1 = psum b 512
    · rw [if_pos h1, decide_eq_true h1]; rfl
    · rw [if_neg h1, decide_eq_false h1, Option.bind_some]
      simp only [Bool.true_and, Bool.false_or]
      rfl
  · rw [if_neg h0, decide_eq_false h0]; rfl
theorem class_val (t : Int) : kind_Class.f t = some (clsOf t) := by
  unfold kind_Class.f kind_Kind.f clsOf kindOf
  repeat' split
  all_goals first | rfl | (simp_all; done) | (exfalso; omega)
theorem pad_val (n : Int) (h0 : 0 ≤ n) : entry_Pad.f n = some (padOf n) := by
  unfold entry_Pad.f padOf
  rw [Int.tmod_eq_emod_of_nonneg h0, wrapI _ (by omega), Int.tmod_eq_emod_of_nonneg (by omega)]
def recOf (l : List S66) : List Rec := l.map fun x => (x.f0, x.f1)
def ofRec (l : List Rec) : List S66 := l.map fun x => ⟨x.1, x.2⟩
theorem oneOf_less {s : ByteArray} (h : (oneOf s).2.2.2 = 0) : (oneOf s).2.2.1.size < s.size := by
  revert h
  unfold oneOf
  simp only
  repeat' split
  all_goals first | (intro h; exact absurd h (by decide)) | skip
  · intro h; rename_i h2; exact absurd h h2
  · intro _
    rename_i n _ h1 h2 h3 h4 h5 h6 h7
    rw [ByteArray.size_extract]
    omega
theorem pax_l0 : ∀ (f : Nat) (s : ByteArray) (out : List Rec), s.size < f → s.size ≤ 1000000 → out.length ≤ 64 → pax_Decode.l0 f (ofRec out) s = some (ofRec (paxL f s out).1, (paxL f s out).2)
  | 0, s, out, h, _, _ => by omega
  | f + 1, s, out, h, h1, ho => by
    rw [pax_Decode.l0, paxL]
    by_cases he : s = ⟨#[]⟩
    · rw [if_pos (by rw [he, ByteArray.toList_eq]), if_pos he]
    · have hne : ¬ (s.toList = ([] : List UInt8)) := by
        intro h2
        rw [ByteArray.toList_eq] at h2
        apply he
        obtain ⟨⟨a⟩⟩ := s
        simp at h2
        rw [h2]
      rw [if_neg hne, if_neg he]
      by_cases h64 : out.length = 64
      · rw [if_pos (by simp [ofRec, h64]), if_pos h64]; rfl
      · rw [if_neg (by simp [ofRec]; omega), if_neg h64]
        unfold pax_one.f
        rw [if_pos (by omega), Option.bind_some]
        by_cases hz : (oneOf s).2.2.2 = 0
        · have hl := oneOf_less hz
          have ih := pax_l0 f (oneOf s).2.2.1 (out ++ [((oneOf s).1, (oneOf s).2.1)]) (by omega) (by omega) (by simp; omega)
          have e : ofRec (out ++ [((oneOf s).1, (oneOf s).2.1)]) = ofRec out ++ [(⟨(oneOf s).1, (oneOf s).2.1⟩ : S66)] := by simp [ofRec]
          rw [e] at ih
          rw [if_pos hz, if_pos (by simp [ofRec]; omega), if_neg (fun h => h hz)]
          exact ih
        · rw [if_neg hz, if_pos hz]; rfl
theorem pax_val (x : List Int) (hx : x.length ≤ 1000000) : pax_Decode.f (x.length + 1) x = some (ofRec (paxV x).1, (paxV x).2) := by
  have hs : (strOfNums x).size = x.length := by simp [strOfNums, ByteArray.size]
  unfold pax_Decode.f paxV
  exact pax_l0 (x.length + 1) (strOfNums x) [] (by omega) (by omega) (by simp)
end Go.Proofs.YtpbpfngichfgeaaGreatDoor.PPua
