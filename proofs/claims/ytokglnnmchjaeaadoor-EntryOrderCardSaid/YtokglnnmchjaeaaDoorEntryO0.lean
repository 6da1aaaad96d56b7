/-
  EntryOrder: its two function literals.
-/
import Derived.Test.YtokglnnmchjaeaaDoorMade
import Derived.LoopN
namespace Go.Proofs.YtokglnnmchjaeaaDoor
set_option linter.unusedVariables false
set_option linter.unusedSimpArgs false
open Go.RowKit

abbrev pathK : ByteArray := ⟨#[112, 97, 116, 104]⟩
def fst2 (a b : ByteArray) : ByteArray := if a ≠ ⟨#[]⟩ then a else b
def fst3 (a b c : ByteArray) : ByteArray := if a ≠ ⟨#[]⟩ then a else fst2 b c
theorem order_val (short nm : ByteArray) (g l : List Rec) (hg : g = [] ∨ ∃ v, g = [(pathK, v)]) (hl : l = [] ∨ ∃ v, l = [(pathK, v)]) :
    makeV 2 short ⟨#[]⟩ ⟨#[]⟩ ⟨#[]⟩ ⟨#[]⟩ 48 0 0 0 0 0 g l nm ⟨#[]⟩ = .tuple #[.agg #[.string (textOf g l pathK nm short), .string ⟨#[]⟩, .int .i64 1, .int .i64 0, .int .i64 0, .int .i64 0, .int .i64 0, .int .i64 0, .string ⟨#[]⟩, .string ⟨#[]⟩], .int .i64 0] := by
  have hz : bits .and .i64 0 4095 = 0 := by decide
  have hk : kindOf 48 = 1 := by decide
  have hlk : ∀ key : ByteArray, pathK ≠ key → lookup g l key = ⟨#[]⟩ := by
    intro key hne
    have : ∀ m : List Rec, (m = [] ∨ ∃ v, m = [(pathK, v)]) → getUpto m key m.length = none := by
      rintro m (rfl | ⟨v, rfl⟩)
      · rfl
      · simp only [List.length_cons, List.length_nil, getUpto]
        rw [if_neg (by simpa using hne)]
    unfold lookup
    rw [this l hl]
    simp only
    rw [this g hg]
    rfl
  have t1 : ∀ key : ByteArray, pathK ≠ key → textOf g l key ⟨#[]⟩ ⟨#[]⟩ = ⟨#[]⟩ := by
    intro key hne
    unfold textOf
    rw [hlk key hne]
    simp
  have n1 : ∀ key : ByteArray, pathK ≠ key → numOf g l key 0 = some 0 := by
    intro key hne
    unfold numOf
    rw [hlk key hne]
    simp
  unfold makeV
  rw [hk, if_neg (by decide), t1 _ (by decide), t1 _ (by decide), t1 _ (by decide), n1 _ (by decide), n1 _ (by decide), n1 _ (by decide), n1 _ (by decide), hz]
  simp [madeV, finV, fullOf]
theorem isE {s : ByteArray} (h : s ≠ ⟨#[]⟩) : s.toList.isEmpty = false := str_nonempty.2 h
set_option maxHeartbeats 4000000 in
theorem first2_any (a b : ByteArray) (g c : Nat) (T : TypeId) (w : World) (hb : Blk w g T #[.string a, .string b]) :
    Calls Tryd.prog 10 #[.slice (some ⟨g, 0, none⟩) 2 c] w (Gives (.string (fst2 a b)) w) := by
  have h0 := hb.cell 0
  have h1 := hb.cell 1
  clear hb
  simp at h0 h1
  unfold fst2
  by_cases ha : a = ⟨#[]⟩
  · subst ha
    rw [if_neg (by simp)]
    by_cases hb : b = ⟨#[]⟩
    · subst hb
      go_enter Tryd.func10, Tryd.ntmps10
      go_wp2
      refine wp_loop_rounds 4 ?_
      repeat any_goals (rw [rounds_succ]; go_wp2)
      all_goals (go_ret; exact ⟨rfl, Below.refl _ _⟩)
    · have he := isE hb
      go_enter Tryd.func10, Tryd.ntmps10
      go_wp2
      refine wp_loop_rounds 4 ?_
      repeat any_goals (rw [rounds_succ]; go_wp2)
      all_goals (go_ret; exact ⟨rfl, Below.refl _ _⟩)
  · rw [if_pos ha]
    have he := isE ha
    go_enter Tryd.func10, Tryd.ntmps10
    go_wp2
    refine wp_loop_rounds 4 ?_
    repeat any_goals (rw [rounds_succ]; go_wp2)
    all_goals (go_ret; exact ⟨rfl, Below.refl _ _⟩)
set_option maxHeartbeats 4000000 in
theorem first3_any (a b d : ByteArray) (g c : Nat) (T : TypeId) (w : World) (hb : Blk w g T #[.string a, .string b, .string d]) :
    Calls Tryd.prog 10 #[.slice (some ⟨g, 0, none⟩) 3 c] w (Gives (.string (fst3 a b d)) w) := by
  have h0 := hb.cell 0
  have h1 := hb.cell 1
  have h2 := hb.cell 2
  clear hb
  simp at h0 h1 h2
  unfold fst3 fst2
  by_cases ha : a = ⟨#[]⟩
  · subst ha
    rw [if_neg (by simp)]
    by_cases hb : b = ⟨#[]⟩
    · subst hb
      rw [if_neg (by simp)]
      by_cases hd : d = ⟨#[]⟩
      · subst hd
        go_enter Tryd.func10, Tryd.ntmps10
        go_wp2
        refine wp_loop_rounds 5 ?_
        repeat any_goals (rw [rounds_succ]; go_wp2)
        all_goals (go_ret; exact ⟨rfl, Below.refl _ _⟩)
      · have he := isE hd
        go_enter Tryd.func10, Tryd.ntmps10
        go_wp2
        refine wp_loop_rounds 5 ?_
        repeat any_goals (rw [rounds_succ]; go_wp2)
        all_goals (go_ret; exact ⟨rfl, Below.refl _ _⟩)
    · rw [if_pos hb]
      have he := isE hb
      go_enter Tryd.func10, Tryd.ntmps10
      go_wp2
      refine wp_loop_rounds 5 ?_
      repeat any_goals (rw [rounds_succ]; go_wp2)
      all_goals (go_ret; exact ⟨rfl, Below.refl _ _⟩)
  · rw [if_pos ha]
    have he := isE ha
    go_enter Tryd.func10, Tryd.ntmps10
    go_wp2
    refine wp_loop_rounds 5 ?_
    repeat any_goals (rw [rounds_succ]; go_wp2)
    all_goals (go_ret; exact ⟨rfl, Below.refl _ _⟩)
abbrev shortH (short : ByteArray) : Array Value := #[.int .i64 2, .string short, .string ⟨#[]⟩, .string ⟨#[]⟩, .string ⟨#[]⟩, .string ⟨#[]⟩, .int .u8 48, .int .i64 0, .int .i64 0, .int .i64 0, .int .i64 0, .int .i64 0]
set_option maxHeartbeats 4000000 in
theorem path_any (short nm : ByteArray) (g l : List Rec) (Ag Al : Option Addr) (cg cl b : Nat) (w : World) (hb : Blk w b 23 (shortH short)) (rg : Recs w Ag g) (rl : Recs w Al l)
    (hg : g = [] ∨ ∃ v, g = [(pathK, v)]) (hl : l = [] ∨ ∃ v, l = [(pathK, v)]) (hs : short.size ≤ 1000) (hn : nm.size ≤ 1000) (hsz : ∀ key, (lookup g l key).size ≤ 281474976710656) (he : EnvE w) (r : ByteArray) (hr : textOf g l pathK nm short = r) :
    Calls Tryd.prog 9 #[.agg #[.slice Ag g.length cg, .slice Al l.length cl, .string nm, .string ⟨#[]⟩], .pointer (some ⟨b, 0, none⟩)] w (Gives (.string r) w) := by
  have HV := Lib.hid (order_val short nm g l hg hl)
  rw [hr] at HV
  have lg : g.length ≤ 1000000 := by rcases hg with rfl | ⟨v, rfl⟩ <;> simp
  have ll : l.length ≤ 1000000 := by rcases hl with rfl | ⟨v, rfl⟩ <;> simp
  have hlt := hb.lt
  have h0 := hb.cell 0; have h1 := hb.cell 1; have h2 := hb.cell 2; have h3 := hb.cell 3; have h4 := hb.cell 4; have h5 := hb.cell 5; have h6 := hb.cell 6; have h7 := hb.cell 7; have h8 := hb.cell 8; have h9 := hb.cell 9; have h10 := hb.cell 10; have h11 := hb.cell 11
  simp at h0 h1 h2 h3 h4 h5 h6 h7 h8 h9 h10 h11
  have HG := Lib.hid rg
  have HL := Lib.hid rl
  have HE := Lib.hid he
  have HSZ := Lib.hid hsz
  have HS := Lib.hid hs
  have HN := Lib.hid hn
  clear rg rl he hsz hs hn hr hb hg hl
  go_enter Tryd.func9, Tryd.ntmps9
  go_wp2_with (go_at_call 6; refine (make_any 2 short ⟨#[]⟩ ⟨#[]⟩ ⟨#[]⟩ ⟨#[]⟩ 48 0 0 0 0 0 g l Ag Al cg cl nm ⟨#[]⟩ _ (HG.out.below (by (repeat' (first | assumption | exact Below.refl _ _ | refine Below.setCell ?_ (by show _ ≤ _; omega) _ | refine Below.drew ?_ | refine below_alloc ?_ _)))) (HL.out.below (by (repeat' (first | assumption | exact Below.refl _ _ | refine Below.setCell ?_ (by show _ ≤ _; omega) _ | refine Below.drew ?_ | refine below_alloc ?_ _)))) lg ll (by have := HS.out; have e0 : (⟨#[]⟩ : ByteArray).size = 0 := rfl; omega) (by have := HN.out; omega) HSZ.out (HE.out.below (by (repeat' (first | assumption | exact Below.refl _ _ | refine Below.setCell ?_ (by show _ ≤ _; omega) _ | refine Below.drew ?_ | refine below_alloc ?_ _))))).mono ?_; rw [HV.out]; rintro e w1 ⟨rfl, hb1⟩; have hB1 : Below w.heap.size w w1 := below_next (by (repeat' (first | assumption | exact Below.refl _ _ | refine Below.setCell ?_ (by show _ ≤ _; omega) _ | refine Below.drew ?_ | refine below_alloc ?_ _))) hb1)
  go_ret
  exact ⟨rfl, by (repeat' (first | assumption | exact Below.refl _ _ | refine Below.setCell ?_ (by show _ ≤ _; omega) _ | refine Below.drew ?_ | refine below_alloc ?_ _))⟩
end Go.Proofs.YtokglnnmchjaeaaDoor
