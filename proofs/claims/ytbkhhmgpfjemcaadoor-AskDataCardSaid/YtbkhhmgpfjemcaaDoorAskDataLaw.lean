/-
  AskData in plain words: bytes are two digits each, small letters alone.
-/
import Derived.Test.YtbkhhmgpfjemcaaDoorAskP5
import Derived.Test.YtbkhhmgpfjemcaaDoorAskDataW
namespace Go.Proofs.YtbkhhmgpfjemcaaDoor
set_option linter.unusedVariables false
set_option linter.unusedSimpArgs false
open Go.RowKit Go.Proofs.YtbkhhmgpfjemcaaDoorW.PrintWords Go.Proofs.YtbkhhmgpfjemcaaDoorW.PrintLast Go.Proofs.YtbkhhmgpfjemcaaDoorW.PrintMore

/-! ### what is sent, as a line -/
abbrev sendHead : List UInt8 := [115, 101, 110, 100, 32, 49, 32, 55]
abbrev sendForm : Form := ⟨(⟨#[115, 101, 110, 100]⟩ : ByteArray), 2, true, true, false, true, false⟩
def sendLine (l : List Int) : List UInt8 := if l = [] then sendHead else sendHead ++ 32 :: hexOf l
theorem send_form_at : PAsk.rd_T47 forms ((1 : Nat) : Int) = sendForm := by decide +kernel
theorem nib_hi : ∀ i : Fin 16, bt (⟨#[48, 49, 50, 51, 52, 53, 54, 55, 56, 57, 97, 98, 99, 100, 101, 102]⟩ : ByteArray) ((i.val : Nat) : Int) = ((hexD.getD i.val 0).toNat : Int) := by decide +kernel
theorem nib_lo : ∀ n : Fin 256, Go.bits .and .u8 ((n.val : Nat) : Int) 15 = ((n.val % 16 : Nat) : Int) := by decide +kernel
def hexI (l : List Int) : List Int := (hexOf l).map fun b => (b.toNat : Int)
theorem hexI_str (l : List Int) : strOfNums (hexI l) = ⟨(hexOf l).toArray⟩ := by
  unfold strOfNums hexI
  rw [List.map_map]
  have : ((fun n : Int => UInt8.ofNat n.toNat) ∘ fun b : UInt8 => (b.toNat : Int)) = id := by
    funext b
    simp
  rw [this, List.map_id]
theorem hexOf_len (l : List Int) : (hexOf l).length = 2 * l.length := by
  induction l with
  | nil => rfl
  | cons x r ih => simp only [hexOf, List.length_cons, ih]; omega
theorem hex_loop (ws : List ByteArray) (hw : ws.length ≤ 10) (l : List Int) (hb : ∀ x ∈ l, 0 ≤ x ∧ x ≤ 255) (hl : l.length ≤ 100000) : ∀ (rest pre : List Int) (k : Nat) (acc : List Int), l = pre ++ rest → rest.length < k → acc.length ≤ 2 * pre.length →
    PAsk.ask_Encode.l1 k ws acc l (l.length : Int) (pre.length : Int) = (PAsk.strings_Join.f (ws ++ [strOfNums (acc ++ hexI rest)]) ⟨#[32]⟩) := by
  intro rest
  induction rest with
  | nil =>
    intro pre k acc he hk ha
    obtain ⟨k, rfl⟩ : ∃ j, k = j + 1 := ⟨k - 1, by omega⟩
    rw [List.append_nil] at he
    subst he
    rw [PAsk.ask_Encode.l1, if_neg (by omega), if_pos (by omega)]
    simp [hexI, hexOf]
  | cons x r ih =>
    intro pre k acc he hk ha
    simp only [List.length_cons] at hk
    obtain ⟨k, rfl⟩ : ∃ j, k = j + 1 := ⟨k - 1, by omega⟩
    have hlen := congrArg List.length he
    simp only [List.length_append, List.length_cons] at hlen
    have hx := hb x (by rw [he]; simp)
    have er : rd l (pre.length : Int) = x := by simp [rd, he]
    have e1 : wrap64 ((pre.length : Int) + 1) = ((pre.length + 1 : Nat) : Int) := by rw [wrap_ok (by omega) (by omega)]; omega
    obtain ⟨n, rfl⟩ : ∃ n : Nat, x = n := ⟨x.toNat, by omega⟩
    have en := nib_lo ⟨n, by omega⟩
    simp only at en
    have ed : ((n : Nat) : Int) / 16 = ((n / 16 : Nat) : Int) := by omega
    have b1 := nib_hi ⟨n / 16, by omega⟩
    have b2 := nib_hi ⟨n % 16, by omega⟩
    simp only at b1 b2
    rw [PAsk.ask_Encode.l1, if_pos (by omega), if_pos (by omega), if_pos (by omega), er, ed, en, if_pos (by omega), if_pos (by omega), if_pos (by omega), if_pos (by omega), b1, b2]
    simp only [Option.bind_some]
    rw [if_pos (by simp only [List.length_cons, List.length_nil]; omega), e1]
    have h2 : ((pre.length + 1 : Nat) : Int) = ((pre ++ [(n : Int)]).length : Int) := by simp
    rw [h2, ih (pre ++ [(n : Int)]) k _ (by rw [List.append_assoc]; exact he) (by omega) (by simp only [List.length_append, List.length_cons, List.length_nil]; omega), List.append_assoc]
    congr 4
theorem enc_send (l : List Int) (hb : ∀ x ∈ l, 0 ≤ x ∧ x ≤ 255) (hl : l.length ≤ 4000) : PAsk.ask_Encode.f 5000 2 1 7 0 ⟨#[]⟩ l = some ⟨(sendLine l).toArray⟩ := by
  have hlen := forms_len
  have hJ : ∀ ws : List ByteArray, ws.length ≤ 10 → (Lib.join (ws.map (·.data.toList)) [32]).length ≤ 20000 → PAsk.strings_Join.f ws ⟨#[32]⟩ = some ⟨(Lib.join (ws.map (·.data.toList)) [32]).toArray⟩ := by
    intro ws h1 h2
    rw [PAsk.strings_Join.f, if_pos ⟨by omega, by show (Lib.join (ws.map (·.data.toList)) [32]).length ≤ _; omega⟩]
  have h1 : itoaS 1 = ⟨#[49]⟩ := by decide +kernel
  have h7 : itoaS 7 = ⟨#[55]⟩ := by decide +kernel
  rw [PAsk.ask_Encode.f, forms_eq]
  simp only [Option.bind_some]
  rw [show (5000 : Nat) = 4990 + 1 + 1 + 1 + 1 + 1 + 1 + 1 + 1 + 1 + 1 from rfl, show (0 : Int) = ((0 : Nat) : Int) from rfl]
  rw [PAsk.ask_Encode.l0, if_pos (by omega), if_pos (by omega), if_pos (by omega), if_neg (show ¬ (PAsk.rd_T47 forms ((0 : Nat) : Int)).f1 = 2 by decide +kernel)]
  rw [show wrap64 (((0 : Nat) : Int) + 1) = ((1 : Nat) : Int) from by rw [wrap_ok (by omega) (by omega)]; rfl]
  rw [PAsk.ask_Encode.l0, if_pos (by omega), if_pos (by omega), if_pos (by omega), send_form_at, if_pos rfl]
  simp only [Option.bind_some, if_true]
  rw [PAsk.strconv_Itoa.f, if_pos (by omega)]
  simp only [Option.bind_some]
  rw [if_pos (by simp), h1, PAsk.ask_Encode.j1]
  simp only [if_true]
  rw [PAsk.strconv_Itoa.f, if_pos (by omega)]
  simp only [Option.bind_some]
  rw [if_pos (by simp), h7, PAsk.ask_Encode.j2]
  simp only [Bool.false_eq_true, if_false]
  rw [PAsk.ask_Encode.j3]
  simp only [Bool.false_eq_true, if_false]
  rw [PAsk.ask_Encode.j4]
  simp only [Bool.false_eq_true, if_false]
  rw [PAsk.ask_Encode.j5]
  simp only [if_true]
  rw [PAsk.ask_Encode.j6]
  by_cases h0 : l = []
  · subst h0
    rw [if_neg (by simp), hJ _ (by simp) (by decide +kernel)]
    simp only [Option.bind_some]
    decide +kernel
  · have hne : l.length ≠ 0 := fun h => h0 (List.eq_nil_of_length_eq_zero h)
    have e2 : wrap64 (2 * (l.length : Int)) = 2 * (l.length : Int) := wrap_ok (by omega) (by omega)
    rw [if_pos (decide_eq_true (by omega)), e2, if_pos (by omega), if_pos (by omega)]
    have := hex_loop ([(⟨#[115, 101, 110, 100]⟩ : ByteArray)] ++ [(⟨#[49]⟩ : ByteArray)] ++ [(⟨#[55]⟩ : ByteArray)]) (by simp) l hb (by omega) l [] 4992 [] rfl (by omega) (by simp)
    simp only [List.length_nil] at this
    refine this.trans ?_
    rw [List.nil_append, hexI_str]
    have hjn : Lib.join ((([(⟨#[115, 101, 110, 100]⟩ : ByteArray)] ++ [(⟨#[49]⟩ : ByteArray)] ++ [(⟨#[55]⟩ : ByteArray)]) ++ [(⟨(hexOf l).toArray⟩ : ByteArray)]).map (·.data.toList)) [32] = sendHead ++ 32 :: hexOf l := by
      simp [Lib.join]
    rw [hJ _ (by simp) (by rw [hjn]; simp [hexOf_len]; omega), hjn, sendLine, if_neg h0]

/-! ### and read again -/
theorem send_read (q : List UInt8) (hq : q.length ≤ 10000) : decL (sendHead ++ 32 :: q) = match dataV q with | some d => (2, 1, 7, 0, [], d, 0) | none => no 200 := by
  have h1 : Lib.itoa ((1 : Nat) : Int) = [49] := by decide +kernel
  have h7 : Lib.itoa ((7 : Nat) : Int) = [55] := by decide +kernel
  have hw : wordOf sendForm = [115, 101, 110, 100] := rfl
  have hs : Suf (32 :: q) := .inr ⟨q, rfl⟩
  have e : sendHead ++ 32 :: q = wordOf sendForm ++ (fld true 1 ++ (fld true 7 ++ 32 :: q)) := by
    rw [hw, fld, if_pos rfl, h1, fld, if_pos rfl, h7]; rfl
  rw [e, dec_suf send_mem (suf_fld true 1 (suf_fld true 7 hs)) (by rw [hw, fld, if_pos rfl, h1, fld, if_pos rfl, h7]; simp only [List.length_append, List.length_cons, List.length_nil]; omega)]
  have s1 := step_fld (b := true) (u := 1) (by omega) (by simp) (suf_fld true 7 hs)
  rw [if_neg (by omega), if_neg (by omega)] at s1
  have s2 := step_fld (b := true) (u := 7) (by omega) (by simp) hs
  rw [if_neg (by omega), if_neg (by omega)] at s2
  simp only
  unfold readL
  rw [s1]
  simp only
  rw [s2]
  simp only [stepL, Bool.false_eq_true, if_false, List.drop_succ_cons, List.drop_zero]
  simp only [ne_eq, not_true, if_false, if_true]
  cases dataV q with
  | none => rfl
  | some d => rfl
theorem send_empty : decL sendHead = (2, 1, 7, 0, [], [], 0) := by
  have := dec_line send_mem (u0 := 1) (u1 := 7) (u2 := 0) (p := []) (bs := []) ⟨by simp, by simp, by simp, by omega, by omega, by omega, by simp, by simp, by simp⟩ (by decide +kernel)
  have e : lineOf sendForm 1 7 0 [] [] = sendHead := by decide +kernel
  rw [e] at this
  exact this
theorem dataV_some : ∀ q : List UInt8, q.length % 2 = 0 → (∀ b ∈ q, ¬ digV b < 0) → ∃ d, dataV q = some d := by
  intro q
  induction q using dataV.induct with
  | case1 => intro _ _; exact ⟨[], rfl⟩
  | case2 x => intro h; simp at h
  | case3 a b r h1 => intro _ h; exact absurd h1 (h a (by simp))
  | case4 a b r h1 h3 => intro _ h; exact absurd h3 (h b (by simp))
  | case5 a b r h1 h3 ih =>
    intro h hd
    simp only [List.length_cons] at h
    obtain ⟨d, hd⟩ := ih (by omega) (fun x hx => hd x (by simp [hx]))
    exact ⟨_, by rw [dataV, if_neg h1, if_neg h3, hd]; rfl⟩
theorem dataV_none : ∀ q : List UInt8, (∃ b ∈ q, digV b < 0) → dataV q = none := by
  intro q
  induction q using dataV.induct with
  | case1 => rintro ⟨b, hb, _⟩; cases hb
  | case2 x => intro _; rfl
  | case3 a b r h1 => intro _; rw [dataV, if_pos h1]
  | case4 a b r h1 h3 => intro _; rw [dataV, if_neg h1, if_pos h3]
  | case5 a b r h1 h3 ih =>
    rintro ⟨c, hc, hd⟩
    rw [dataV, if_neg h1, if_neg h3]
    rcases List.mem_cons.1 hc with rfl | hc
    · exact absurd hd h1
    · rcases List.mem_cons.1 hc with rfl | hc
      · exact absurd hd h3
      · rw [ih ⟨c, hc, hd⟩]; rfl
theorem dataV_odd2 : ∀ l : List UInt8, l.length % 2 ≠ 0 → dataV l = none := by
  intro l
  induction l using dataV.induct with
  | case1 => intro h; simp at h
  | case2 x => intro _; rfl
  | case3 a b r h1 => intro _; rw [dataV, if_pos h1]
  | case4 a b r h1 h3 => intro _; rw [dataV, if_neg h1, if_pos h3]
  | case5 a b r h1 h3 ih =>
    intro h
    simp only [List.length_cons] at h
    rw [dataV, if_neg h1, if_neg h3, ih (by omega)]
    rfl
theorem hexOf_dig : ∀ (l : List Int), (∀ x ∈ l, 0 ≤ x ∧ x ≤ 255) → ∀ b ∈ hexOf l, ¬ digV b < 0 := by
  intro l
  induction l with
  | nil => intro _ b hb; cases hb
  | cons x r ih =>
    intro h b hb
    obtain ⟨h0, h1⟩ := h x (by simp)
    have e1 := digV_hex (x / 16).toNat (by omega)
    have e2 := digV_hex (x % 16).toNat (by omega)
    rw [hexOf] at hb
    rcases List.mem_cons.1 hb with rfl | hb
    · omega
    · rcases List.mem_cons.1 hb with rfl | hb
      · omega
      · exact ih (fun y hy => h y (by simp [hy])) b hb
theorem dig_range : ∀ n : Fin 256, ¬ digV (UInt8.ofNat n.val) < 0 ↔ (48 ≤ n.val ∧ n.val ≤ 57 ∨ 97 ≤ n.val ∧ n.val ≤ 102) := by decide +kernel
theorem setS_mk (l : List UInt8) (i : Nat) (v : Int) : PAskD.setS ⟨l.toArray⟩ (i : Int) v = ⟨(l.set i (UInt8.ofNat v.toNat)).toArray⟩ := by
  unfold PAskD.setS PAskD.numsS strOfNums
  rw [Int.toNat_natCast]
  have : ∀ (l : List UInt8) (i : Nat), ((l.map fun b => (b.toNat : Int)).set i v).map (fun n : Int => UInt8.ofNat n.toNat) = l.set i (UInt8.ofNat v.toNat) := by
    intro l i
    rw [List.map_set, List.map_map]
    congr 1
    have : ((fun n : Int => UInt8.ofNat n.toNat) ∘ fun b : UInt8 => (b.toNat : Int)) = id := by
      funext b
      simp
    rw [this, List.map_id]
  rw [this]
theorem take_mk (l : List UInt8) (n : Nat) : (⟨l.toArray⟩ : ByteArray).extract 0 n = ⟨(l.take n).toArray⟩ := by
  have h : ((⟨l.toArray⟩ : ByteArray).extract 0 n).data.toList = l.take n := by
    rw [ByteArray.data_extract, Array.toList_extract]
    simp [List.extract]
  cases hx : (⟨l.toArray⟩ : ByteArray).extract 0 n with
  | mk d =>
    rw [hx] at h
    simp only at h
    rw [← h]
theorem data_law (l : List Int) (hb : ∀ x ∈ l, 0 ≤ x ∧ x ≤ 255) (at_ odd : Int) (ho : 0 ≤ odd ∧ odd ≤ 255) (ha : -9223372036854775808 ≤ at_ ∧ at_ ≤ 9223372036854775807) : ∃ k, PAskD.pannierlaw20_AskData.f k l at_ odd = some true := by
  refine ⟨100, ?_⟩
  unfold PAskD.pannierlaw20_AskData.f
  have hA : PAskD.pannierlaw20_asks.f = some true := asks_true
  rw [hA]
  simp only [Option.bind_some, if_true]
  by_cases h0 : (l.length : Int) > 3000
  · rw [if_pos h0]
  rw [if_neg h0]
  have hll : (sendLine l).length ≤ 6009 := by
    unfold sendLine
    split
    · simp
    · simp only [List.length_append, List.length_cons, List.length_nil, hexOf_len]; omega
  have hE : PAskD.ask_Encode.f 2 1 7 0 ⟨#[]⟩ l = some ⟨(sendLine l).toArray⟩ := by
    rw [PAskD.ask_Encode.f, enc_send l hb (by omega)]
    simp only [Option.bind_some]
    rw [if_pos (by rw [size_mk]; omega)]
  have hD : ∀ q : List UInt8, q.length ≤ 20000 → PAskD.ask_Decode.f ⟨q.toArray⟩ = some (ofL (decL q)) := fun q hq => dec_eq q 100 (by omega) (by omega)
  have hsl : decL (sendLine l) = (2, 1, 7, 0, [], l, 0) := by
    unfold sendLine
    split
    · rename_i h; rw [h]; exact send_empty
    · rw [send_read _ (by rw [hexOf_len]; omega), dataV_hex l hb]
  rw [hE]
  simp only [Option.bind_some]
  rw [hD _ (by omega), hsl]
  simp only [ofL, Option.bind_some, if_true]
  have hj1 : PAskD.pannierlaw20_AskData.j1 99 at_ odd ⟨(sendLine l).toArray⟩ true = some true := by
    rw [show (99 : Nat) = 98 + 1 from rfl, PAskD.pannierlaw20_AskData.j1, if_pos rfl]
  rw [show (100 : Nat) = 99 + 1 from rfl, PAskD.pannierlaw20_AskData.j0, if_neg (by decide)]
  by_cases h1 : (l.length : Int) = 0
  · rw [if_pos h1, hj1]
  rw [if_neg h1]
  by_cases h2 : at_ < 0
  · rw [if_pos h2, hj1]
  rw [if_neg h2]
  have e2 : wrap64 (2 * (l.length : Int)) = 2 * (l.length : Int) := wrap_ok (by omega) (by omega)
  rw [e2]
  by_cases h3 : at_ ≥ 2 * (l.length : Int)
  · rw [decide_eq_true h3, hj1]
  rw [decide_eq_false h3]
  have hne : l ≠ [] := fun h => by subst h; simp at h1
  obtain ⟨i, rfl⟩ : ∃ i : Nat, at_ = i := ⟨at_.toNat, by omega⟩
  obtain ⟨o, rfl⟩ : ∃ o : Nat, odd = o := ⟨odd.toNat, by omega⟩
  have hL : sendLine l = (sendHead ++ [32]) ++ hexOf l := by rw [sendLine, if_neg hne]; simp
  have hxl := hexOf_len l
  have hLl : (sendLine l).length = 9 + 2 * l.length := by rw [hL]; simp only [List.length_append, List.length_cons, List.length_nil, hxl]
  have e3 : wrap64 (((⟨(sendLine l).toArray⟩ : ByteArray).size : Int) - 1) = ((9 + 2 * l.length - 1 : Nat) : Int) := by rw [size_mk, hLl, wrap_ok (by omega) (by omega)]; omega
  have e4 : wrap64 (9 + (i : Int)) = ((9 + i : Nat) : Int) := by rw [wrap_ok (by omega) (by omega)]; omega
  rw [show (99 : Nat) = 98 + 1 from rfl, PAskD.pannierlaw20_AskData.j1, if_neg (by decide), e3, e4, if_pos (by omega), if_pos (by rw [size_mk, hLl]; omega)]
  have hcut : decL ((sendLine l).take (9 + 2 * l.length - 1)) = no 200 := by
    have : (sendLine l).take (9 + 2 * l.length - 1) = sendHead ++ 32 :: (hexOf l).take (2 * l.length - 1) := by
      rw [hL, List.take_append]
      have h9 : (sendHead ++ [32]).length = 9 := rfl
      rw [List.take_of_length_le (by rw [h9]; omega), h9]
      have : 9 + 2 * l.length - 1 - 9 = 2 * l.length - 1 := by omega
      rw [this]
      simp
    rw [this, send_read _ (by rw [List.length_take]; omega), dataV_odd2 _ (by rw [List.length_take]; omega)]
  have hset : PAskD.setS ⟨(sendLine l).toArray⟩ ((9 + i : Nat) : Int) (o : Int) = ⟨(sendHead ++ 32 :: (hexOf l).set i (UInt8.ofNat o)).toArray⟩ := by
    rw [setS_mk, hL]
    have h9 : (sendHead ++ [32]).length = 9 := rfl
    rw [List.set_append_right _ _ (by rw [h9]; omega), h9, show 9 + i - 9 = i by omega]
    simp
  rw [Int.toNat_natCast, take_mk, hD _ (by rw [List.length_take]; omega), hcut]
  simp only [ofL, no, Option.bind_some]
  rw [if_pos (by omega), if_pos (by rw [size_mk, hLl]; omega), hset, hD _ (by simp only [List.length_append, List.length_cons, List.length_nil, List.length_set, hxl]; omega), send_read _ (by rw [List.length_set, hxl]; omega)]
  simp only [Option.bind_some, if_true]
  have hdr := dig_range ⟨o, by omega⟩
  simp only at hdr
  have hcode : (ofL (match dataV ((hexOf l).set i (UInt8.ofNat o)) with | some d => (2, 1, 7, 0, [], d, 0) | none => no 200)).2.2.2.2.2.2 = if 48 ≤ o ∧ o ≤ 57 ∨ 97 ≤ o ∧ o ≤ 102 then 0 else 200 := by
    by_cases hx : 48 ≤ o ∧ o ≤ 57 ∨ 97 ≤ o ∧ o ≤ 102
    · obtain ⟨d, hd⟩ := dataV_some ((hexOf l).set i (UInt8.ofNat o)) (by rw [List.length_set, hxl]; omega) (fun b hb2 => by
        rcases List.mem_or_eq_of_mem_set hb2 with hb2 | rfl
        · exact hexOf_dig l hb b hb2
        · exact hdr.2 hx)
      rw [hd, if_pos hx]
      rfl
    · rw [if_neg hx, dataV_none _ ⟨UInt8.ofNat o, List.mem_set (by rw [hxl]; omega) _, by have := mt hdr.1 hx; omega⟩]
      rfl
  generalize hg : (ofL (match dataV ((hexOf l).set i (UInt8.ofNat o)) with | some d => (2, 1, 7, 0, [], d, 0) | none => no 200)).2.2.2.2.2.2 = g at hcode ⊢
  have yes : (48 ≤ o ∧ o ≤ 57 ∨ 97 ≤ o ∧ o ≤ 102) → g = 0 := fun h => by rw [hcode, if_pos h]
  have nay : ¬ (48 ≤ o ∧ o ≤ 57 ∨ 97 ≤ o ∧ o ≤ 102) → g = 200 := fun h => by rw [hcode, if_neg h]
  clear hcode hg
  by_cases c1 : (o : Int) ≥ 48
  · rw [if_pos c1]
    by_cases c2 : (o : Int) ≤ 57
    · rw [if_pos c2, yes (by omega)]; rfl
    · rw [if_neg c2]
      by_cases c3 : (o : Int) ≥ 97
      · rw [if_pos c3]
        by_cases c4 : (o : Int) ≤ 102
        · rw [decide_eq_true c4, yes (by omega), if_pos c4]; rfl
        · rw [decide_eq_false c4, nay (by omega), if_neg c4]; rfl
      · rw [if_neg c3, nay (by omega)]; rfl
  · rw [if_neg c1]
    by_cases c3 : (o : Int) ≥ 97
    · exfalso; omega
    · rw [if_neg c3, nay (by omega)]; rfl
end Go.Proofs.YtbkhhmgpfjemcaaDoor
