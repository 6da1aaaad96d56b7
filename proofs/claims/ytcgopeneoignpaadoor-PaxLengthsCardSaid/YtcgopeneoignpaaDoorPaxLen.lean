/-
  PaxLengths, as a plain statement.
-/
import Derived.Test.YtcgopeneoignpaaDoorPaxLaw
namespace Go.Proofs.YtcgopeneoignpaaDoor.PPax
set_option linter.unusedVariables false
set_option linter.unusedSimpArgs false
open Go.RowKit Go.Proofs.YtcgopeneoignpaaDoor Go.Proofs.YtcgopeneoignpaaDoorW.PrintWords Go.Proofs.YtcgopeneoignpaaDoorW.PrintLast Go.Proofs.YtcgopeneoignpaaDoorW.PrintMore

theorem rd_ints (l : List UInt8) (i : Nat) (h : i < l.length) : rd (intsOf l) (i : Int) = ((l[i]'h).toNat : Int) := by
  unfold rd
  simp [intsOf, h]
def accD (a : Nat) (l : List UInt8) : Nat := l.foldl (fun (a : Nat) b => 10 * a + (b.toNat - 48)) a
/-- What the loop over a length's digits ends in. -/
def lenEnd (k : Nat) (B : List Int) (x6 : Int) : Option Bool :=
  (pax_Decode.f k (B ++ [10])).bind fun b1 => ((pax_Decode.f k (B.take (B.length - 1))).bind fun b2 => (if x6 = (B.length : Int) then (if b1.2 = 70 then (some (b2.2 == 70)) else (some false)) else (some false)))
theorem lengths_l0 (t rest : List UInt8) (ht : ∀ b ∈ t, 48 ≤ b.toNat ∧ b.toNat ≤ 57) (hl : t.length ≤ 5) (hr : rest.length ≤ 10000) (d : Nat) : ∀ (k i a : Nat), t.length - i = d → i ≤ t.length → a < 10 ^ i →
    pannierlaw07_PaxLengths.l0 (k + 1 + d) (intsOf (t ++ 32 :: rest)) (i : Int) (a : Int) = lenEnd k (intsOf (t ++ 32 :: rest)) (accD a (t.drop i) : Nat) := by
  have hB : (intsOf (t ++ 32 :: rest)).length = t.length + 1 + rest.length := by simp [intsOf]; omega
  induction d with
  | zero =>
    intro k i a hd hi ha
    obtain rfl : i = t.length := by omega
    have h32 : rd (intsOf (t ++ 32 :: rest)) (t.length : Int) = 32 := by rw [rd_ints _ _ (by simp)]; simp
    rw [Nat.add_zero]
    simp only [pannierlaw07_PaxLengths.l0]
    rw [if_pos (by rw [hB]; omega), if_pos (by omega), if_pos h32]
    simp only [Option.bind_some, List.nil_append, List.length_nil]
    rw [if_pos (by rw [hB]; omega), if_pos (by rw [hB]; omega)]
    have e : wrap64 (((intsOf (t ++ 32 :: rest)).length : Int) - 1) = ((intsOf (t ++ 32 :: rest)).length - 1 : Nat) := by rw [hB, wrap_ok (by omega) (by omega)]; omega
    have e2 : (((intsOf (t ++ 32 :: rest)).length - 1 : Nat) : Int).toNat = (intsOf (t ++ 32 :: rest)).length - 1 := by omega
    have c1 : (0 : Int) ≤ ((intsOf (t ++ 32 :: rest)).length - 1 : Nat) := by omega
    have c2 : (((intsOf (t ++ 32 :: rest)).length - 1 : Nat) : Int) ≤ ((intsOf (t ++ 32 :: rest)).length : Int) := by omega
    simp only [e, c1, c2, if_true, e2]
    rw [List.drop_of_length_le (Nat.le_refl _)]
    rfl
  | succ d ih =>
    intro k i a hd hi ha
    have hlt : i < t.length := by omega
    have hdig := ht (t[i]'hlt) (List.getElem_mem _)
    have hri : rd (intsOf (t ++ 32 :: rest)) (i : Int) = ((t[i]'hlt).toNat : Int) := by
      rw [rd_ints _ _ (by simp; omega), List.getElem_append_left hlt]
    have e0 : k + 1 + (d + 1) = (k + 1 + d) + 1 := by omega
    rw [e0]
    simp only [pannierlaw07_PaxLengths.l0]
    have p5 : 10 ^ i ≤ 100000 := Nat.le_trans (Nat.pow_le_pow_right (n := 10) (by decide) (show i ≤ 5 by omega)) (by decide)
    have p6 : 10 ^ (i + 1) = 10 ^ i * 10 := Nat.pow_succ ..
    obtain ⟨p, hp⟩ : ∃ p, 10 ^ i = p := ⟨_, rfl⟩
    rw [hp] at p5 p6 ha
    rw [if_pos (by rw [hB]; omega), if_pos (by omega), hri, if_neg (by omega)]
    have e1 : wrap64 ((i : Int) + 1) = ((i + 1 : Nat) : Int) := by rw [wrap_ok (by omega) (by omega)]; omega
    have e2 : (((t[i]'hlt).toNat : Int) - 48) % 256 = (((t[i]'hlt).toNat - 48 : Nat) : Int) := by omega
    have e3 : wrap64 (wrap64 (10 * (a : Int)) + (((t[i]'hlt).toNat : Int) - 48) % 256) = ((10 * a + ((t[i]'hlt).toNat - 48) : Nat) : Int) := by
      rw [e2, wrap_ok (n := 10 * (a : Int)) (by omega) (by omega), wrap_ok (by omega) (by omega)]
      omega
    have q1 : t.length - (i + 1) = d := by clear e1 e2 e3 hri hB ih; omega
    have q2 : i + 1 ≤ t.length := hlt
    have q3 : 10 * a + ((t[i]'hlt).toNat - 48) < 10 ^ (i + 1) := by rw [p6]; clear e1 e2 e3 hri hB ih; omega
    have q4 := ih k (i + 1) _ q1 q2 q3
    have q5 : accD a (t.drop i) = accD (10 * a + ((t[i]'hlt).toNat - 48)) (t.drop (i + 1)) := by
      rw [List.drop_eq_getElem_cons hlt]
      simp only [accD, List.foldl_cons]
    rw [e1, e3, q4, q5]
theorem lengths_law (n : Int) : ∃ k, pannierlaw07_PaxLengths.f k n = some true := by
  refine ⟨200, ?_⟩
  unfold pannierlaw07_PaxLengths.f
  rw [records_ok (by omega)]
  simp only [Option.bind_some, if_true]
  by_cases h : n < 0
  · rw [if_pos h, pannierlaw07_PaxLengths.j0, if_pos rfl]
  · rw [if_neg h]
    by_cases h2 : n > 4095
    · simp only [h2, decide_true]; rw [pannierlaw07_PaxLengths.j0, if_pos rfl]
    · simp only [h2, decide_false]
      rw [pannierlaw07_PaxLengths.j0, if_neg (by decide), if_pos (by omega), if_pos (by omega)]
      obtain ⟨v, hv⟩ : ∃ v, strOfNums (List.replicate n.toNat 0) = v := ⟨_, rfl⟩
      have hvs : v.size = n.toNat := by rw [← hv, strOfNums_size]; simp
      rw [hv]
      have hk1 : (⟨#[107]⟩ : ByteArray).size = 1 := rfl
      have hc : chkOf ⟨#[107]⟩ v = 0 := by
        rw [chkOf, if_neg (by decide), if_neg (by decide), if_neg (by rw [hk1]; omega)]
      have hcl : chkL (recOf [(⟨⟨#[107]⟩, v⟩ : S45)]) = 0 := by simp [recOf, chkL, hc]
      rw [encode_f _ (by intro x hx; simp at hx; subst hx; simp only; rw [hk1]; omega), encOf_le _ (by simp), if_pos hcl]
      simp only [Option.bind_some, if_true]
      have hf := lenFacts (n := 1 + v.size + 3) (by omega)
      have hB := recT_list ⟨#[107]⟩ v (1 + v.size + 3) (by rw [hk1])
      obtain ⟨L, hL⟩ : ∃ L, lenN (1 + v.size + 3) = L := ⟨_, rfl⟩
      rw [hL] at hf hB
      obtain ⟨t, ht⟩ : ∃ t, Lib.itoa (L : Int) = t := ⟨_, rfl⟩
      obtain ⟨len, atoi, dig, le, pos, val⟩ := hf
      rw [ht] at len atoi dig le pos val hB
      obtain ⟨rest, hrest⟩ : ∃ rest, (⟨#[107]⟩ : ByteArray).data.toList ++ 61 :: (v.data.toList ++ [10]) = rest := ⟨_, rfl⟩
      have hrl : rest.length = v.size + 3 := by rw [← hrest]; simp only [List.length_append, List.length_cons, List.length_nil, ← Lib.size_eq, hk1]; omega
      rw [hrest] at hB
      have hE : encL (recOf [(⟨⟨#[107]⟩, v⟩ : S45)]) = t ++ 32 :: rest := by simp [recOf, encL, hB]
      rw [hE]
      have hl0 := lengths_l0 t rest dig le (by omega) t.length (198 - t.length) 0 0 (by omega) (by omega) (by decide)
      have ek : 198 - t.length + 1 + t.length = 199 := by omega
      rw [ek] at hl0
      simp only [Int.natCast_zero] at hl0
      rw [hl0, List.drop_zero, accD, val]
      have hBl : (t ++ 32 :: rest).length = L := by simp only [List.length_append, List.length_cons]; omega
      have hil : (intsOf (t ++ 32 :: rest)).length = L := by rw [← hBl]; simp [intsOf]
      unfold lenEnd
      have d1 : pax_Decode.f (198 - t.length) (intsOf (t ++ 32 :: rest) ++ [10]) = some ([], 70) := by
        have e : intsOf (t ++ 32 :: rest) ++ [10] = intsOf (encL (recOf [(⟨⟨#[107]⟩, v⟩ : S45)]) ++ [10]) := by rw [hE]; simp [intsOf]
        have hd := decode_enc [(⟨⟨#[107]⟩, v⟩ : S45)] [] [10] (198 - t.length - 1) hcl (by simp) (by rw [hE, hBl]; simp; omega)
        have ek2 : 198 - t.length - 1 + [(⟨⟨#[107]⟩, v⟩ : S45)].length = 198 - t.length := by simp; omega
        rw [ek2] at hd
        unfold pax_Decode.f
        rw [e, strOf_ints, hd]
        obtain ⟨m, hm⟩ : ∃ m, 198 - t.length - 1 = m + 1 := ⟨198 - t.length - 2, by omega⟩
        rw [hm, pax_Decode.l0, if_neg (by rw [toList_nil]; decide), if_neg (by simp)]
        unfold pax_one.f
        have : oneOf ⟨[10].toArray⟩ = (⟨#[]⟩, ⟨#[]⟩, ⟨#[]⟩, 70) := by kernel_rfl
        rw [if_pos (by decide), this]
        simp
      have d2 : pax_Decode.f (198 - t.length) ((intsOf (t ++ 32 :: rest)).take ((intsOf (t ++ 32 :: rest)).length - 1)) = some ([], 70) := by
        rw [hil]
        have e : (intsOf (t ++ 32 :: rest)).take (L - 1) = intsOf (t ++ 32 :: rest.take (rest.length - 1)) := by
          have e1 : (t ++ 32 :: rest).take (L - 1) = t ++ 32 :: rest.take (rest.length - 1) := by
            have : L - 1 = t.length + (rest.length - 1 + 1) := by omega
            rw [this, List.take_length_add_append, List.take_succ_cons]
          rw [← e1]; simp [intsOf, List.map_take]
        rw [e]
        obtain ⟨s, hs⟩ : ∃ s : ByteArray, s = ⟨(t ++ 32 :: rest.take (rest.length - 1)).toArray⟩ := ⟨_, rfl⟩
        have hsl : s.data.toList = t ++ 32 :: rest.take (rest.length - 1) := by rw [hs]
        have hsz : s.size = L - 1 := by rw [Lib.size_eq, hsl]; simp only [List.length_append, List.length_cons, List.length_take]; omega
        have ho : oneOf s = (⟨#[]⟩, ⟨#[]⟩, ⟨#[]⟩, 70) := by
          have hcut : Lib.cut s.data.toList [32] = (t, rest.take (rest.length - 1), true) := by
            rw [hsl]; exact cut_at fun b hb he => by have := dig b hb; rw [he] at this; simp at this
          unfold oneOf
          simp only [hcut]
          rw [if_neg (by decide), if_neg (by omega)]
          simp only [atoi]
          rw [if_neg (fun h => h ht), if_neg (by omega), if_pos (by omega)]
        unfold pax_Decode.f
        obtain ⟨m, hm⟩ : ∃ m, 198 - t.length = m + 1 := ⟨198 - t.length - 1, by omega⟩
        rw [strOf_ints, ← hs, hm, pax_Decode.l0, if_neg ?_, if_neg (by simp)]
        · unfold pax_one.f
          rw [if_pos (by omega), ho]
          simp
        · rw [toList_nil]
          intro h
          rw [h] at hsz
          have : (⟨#[]⟩ : ByteArray).size = 0 := rfl
          omega
      rw [d1, d2]
      simp only [Option.bind_some]
      rw [if_pos (by rw [hil])]
      rfl
end Go.Proofs.YtcgopeneoignpaaDoor.PPax
