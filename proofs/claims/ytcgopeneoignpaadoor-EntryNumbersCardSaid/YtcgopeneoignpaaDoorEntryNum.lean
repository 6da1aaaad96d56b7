/-
  EntryNumbers, walked: every value.
-/
import Derived.Test.YtcgopeneoignpaaDoorEntryN0
import Derived.Test.YtcgopeneoignpaaDoorEntryN1
import Derived.Test.YtcgopeneoignpaaDoorEntryN2
import Derived.Test.YtcgopeneoignpaaDoorEntryN3
namespace Go.Proofs.YtcgopeneoignpaaDoor
set_option linter.unusedVariables false
set_option linter.unusedSimpArgs false
open Go.RowKit

set_option maxHeartbeats 8000000 in
theorem numbers_walk (value : ByteArray) (short key : Int) (w : World) (he : EnvE w) : Calls Tryd.prog 6 #[.string value, .int .i64 short, .int .i64 key] w (Gives (.bool true) w) := by
  have HE := Lib.hid he
  clear he
  by_cases h0 : 200 < value.size
  · go_enter Tryd.func6, Tryd.ntmps6
    go_wp2_with (go_at_call 18; refine (makes_any _ (HE.out.below (by (repeat' (first | assumption | exact Below.refl _ _ | refine Below.setCell ?_ (by show _ ≤ _; omega) _ | refine Below.drew ?_ | refine below_alloc ?_ _))))).mono ?_; rintro e w1 ⟨rfl, hb1⟩; have hB1 : Below w.heap.size w w1 := below_next (by (repeat' (first | assumption | exact Below.refl _ _ | refine Below.setCell ?_ (by show _ ≤ _; omega) _ | refine Below.drew ?_ | refine below_alloc ?_ _))) hb1)
    (go_ret; exact ⟨rfl, by (repeat' (first | assumption | exact Below.refl _ _ | refine Below.setCell ?_ (by show _ ≤ _; omega) _ | refine Below.drew ?_ | refine below_alloc ?_ _))⟩)
  by_cases h1 : key < 0
  · go_enter Tryd.func6, Tryd.ntmps6
    go_wp2_with (go_at_call 18; refine (makes_any _ (HE.out.below (by (repeat' (first | assumption | exact Below.refl _ _ | refine Below.setCell ?_ (by show _ ≤ _; omega) _ | refine Below.drew ?_ | refine below_alloc ?_ _))))).mono ?_; rintro e w1 ⟨rfl, hb1⟩; have hB1 : Below w.heap.size w w1 := below_next (by (repeat' (first | assumption | exact Below.refl _ _ | refine Below.setCell ?_ (by show _ ≤ _; omega) _ | refine Below.drew ?_ | refine below_alloc ?_ _))) hb1)
    (go_ret; exact ⟨rfl, by (repeat' (first | assumption | exact Below.refl _ _ | refine Below.setCell ?_ (by show _ ≤ _; omega) _ | refine Below.drew ?_ | refine below_alloc ?_ _))⟩)
  by_cases h2 : 3 < key
  · go_enter Tryd.func6, Tryd.ntmps6
    go_wp2_with (go_at_call 18; refine (makes_any _ (HE.out.below (by (repeat' (first | assumption | exact Below.refl _ _ | refine Below.setCell ?_ (by show _ ≤ _; omega) _ | refine Below.drew ?_ | refine below_alloc ?_ _))))).mono ?_; rintro e w1 ⟨rfl, hb1⟩; have hB1 : Below w.heap.size w w1 := below_next (by (repeat' (first | assumption | exact Below.refl _ _ | refine Below.setCell ?_ (by show _ ≤ _; omega) _ | refine Below.drew ?_ | refine below_alloc ?_ _))) hb1)
    (go_ret; exact ⟨rfl, by (repeat' (first | assumption | exact Below.refl _ _ | refine Below.setCell ?_ (by show _ ≤ _; omega) _ | refine Below.drew ?_ | refine below_alloc ?_ _))⟩)
  by_cases h3 : short < 0
  · go_enter Tryd.func6, Tryd.ntmps6
    go_wp2_with (go_at_call 18; refine (makes_any _ (HE.out.below (by (repeat' (first | assumption | exact Below.refl _ _ | refine Below.setCell ?_ (by show _ ≤ _; omega) _ | refine Below.drew ?_ | refine below_alloc ?_ _))))).mono ?_; rintro e w1 ⟨rfl, hb1⟩; have hB1 : Below w.heap.size w w1 := below_next (by (repeat' (first | assumption | exact Below.refl _ _ | refine Below.setCell ?_ (by show _ ≤ _; omega) _ | refine Below.drew ?_ | refine below_alloc ?_ _))) hb1)
    (go_ret; exact ⟨rfl, by (repeat' (first | assumption | exact Below.refl _ _ | refine Below.setCell ?_ (by show _ ≤ _; omega) _ | refine Below.drew ?_ | refine below_alloc ?_ _))⟩)
  have hk : key = 0 ∨ key = 1 ∨ key = 2 ∨ key = 3 := by omega
  have hs : value.size ≤ 200 := by omega
  rcases hk with rfl | rfl | rfl | rfl
  · by_cases hq : value = ⟨#[]⟩
    · subst hq
      exact num_uid_empty short h3 w HE.out
    cases hn : numberOf value with
    | none => exact num_uid_none value hs hq hn short h3 w HE.out
    | some n =>
      by_cases h5 : n < 0
      · exact num_uid_neg value hs hq n hn h5 short h3 w HE.out
      · exact num_uid_pos value hs hq n hn h5 short h3 w HE.out
  · by_cases hq : value = ⟨#[]⟩
    · subst hq
      exact num_gid_empty short h3 w HE.out
    cases hn : numberOf value with
    | none => exact num_gid_none value hs hq hn short h3 w HE.out
    | some n =>
      by_cases h5 : n < 0
      · exact num_gid_neg value hs hq n hn h5 short h3 w HE.out
      · exact num_gid_pos value hs hq n hn h5 short h3 w HE.out
  · by_cases hq : value = ⟨#[]⟩
    · subst hq
      exact num_size_empty short h3 w HE.out
    cases hn : numberOf value with
    | none => exact num_size_none value hs hq hn short h3 w HE.out
    | some n =>
      by_cases h5 : n < 0
      · exact num_size_neg value hs hq n hn h5 short h3 w HE.out
      · exact num_size_pos value hs hq n hn h5 short h3 w HE.out
  · by_cases hq : value = ⟨#[]⟩
    · subst hq
      exact num_mtime_empty short h3 w HE.out
    cases hn : numberOf value with
    | none => exact num_mtime_none value hs hq hn short h3 w HE.out
    | some n =>
      by_cases h5 : n < 0
      · exact num_mtime_neg value hs hq n hn h5 short h3 w HE.out
      · exact num_mtime_pos value hs hq n hn h5 short h3 w HE.out
end Go.Proofs.YtcgopeneoignpaaDoor
