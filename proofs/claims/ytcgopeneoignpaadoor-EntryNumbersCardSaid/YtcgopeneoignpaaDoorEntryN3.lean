/-
  EntryNumbers, walked: the key mtime.
-/
import Derived.Test.YtcgopeneoignpaaDoorEntryN
namespace Go.Proofs.YtcgopeneoignpaaDoor
set_option linter.unusedVariables false
set_option linter.unusedSimpArgs false
open Go.RowKit

set_option maxRecDepth 100000 in
set_option maxHeartbeats 8000000 in
theorem num_mtime_empty (short : Int) (hsh : ¬ short < 0) (w : World) (he : EnvE w) : Calls Tryd.prog 6 #[.string ⟨#[]⟩, .int .i64 short, .int .i64 3] w (Gives (.bool true) w) := by
  have hv := num_val_mtime ⟨#[]⟩ short
  rw [if_neg (by simp)] at hv
  dsimp only at hv
  unfold finV at hv
  rw [if_neg (by omega)] at hv
  have HV : Hid (makeV 1 ⟨#[97]⟩ ⟨#[]⟩ ⟨#[]⟩ ⟨#[]⟩ ⟨#[]⟩ 48 0 short short short short [] [(⟨#[109, 116, 105, 109, 101]⟩, ⟨#[]⟩)] ⟨#[]⟩ ⟨#[]⟩ = .tuple #[.agg #[.string ⟨#[97]⟩, .string ⟨#[]⟩, .int .i64 1, .int .i64 0, .int .i64 short, .int .i64 short, .int .i64 short, .int .i64 short, .string ⟨#[]⟩, .string ⟨#[]⟩], .int .i64 0]) := hv
  have HE := Lib.hid he
  have HN : Hid (numberOf ⟨#[]⟩ = none) := by show numberOf ⟨#[]⟩ = none; kernel_rfl
  have HN2 : Hid (ByteArray.size ⟨#[]⟩ ≤ 281474976710656) := by show ByteArray.size ⟨#[]⟩ ≤ _; decide
  have HSZ := Lib.hid (lookup_le (g := []) (l := [(⟨#[109, 116, 105, 109, 101]⟩, ⟨#[]⟩)]) (n := 281474976710656) (by simp) (by intro r hr; simp at hr; subst hr; exact HN2.out))
  have hx1 := index_s3
  have hx2 := index_l3
  clear hv he
  go_enter Tryd.func6, Tryd.ntmps6
  go_wp2_with (first | (go_at_call 18; refine (makes_any _ (HE.out.below (by (repeat' (first | assumption | exact Below.refl _ _ | refine Below.setCell ?_ (by show _ ≤ _; omega) _ | refine Below.drew ?_ | refine below_alloc ?_ _))))).mono ?_; rintro e w1 ⟨rfl, hb1⟩; have hB1 : Below w.heap.size w w1 := below_next (by (repeat' (first | assumption | exact Below.refl _ _ | refine Below.setCell ?_ (by show _ ≤ _; omega) _ | refine Below.drew ?_ | refine below_alloc ?_ _))) hb1) | (go_at_call 19; refine (make_any 1 ⟨#[97]⟩ ⟨#[]⟩ ⟨#[]⟩ ⟨#[]⟩ ⟨#[]⟩ 48 0 short short short short [] [(⟨#[109, 116, 105, 109, 101]⟩, ⟨#[]⟩)] none _ 0 1 ⟨#[]⟩ ⟨#[]⟩ _ (.inl rfl) (recs_one (heap_alloc2_new w1 _ _)) (by decide) (by show 1 ≤ 1000000; decide) (by decide) (by decide) HSZ.out (HE.out.below (by (repeat' (first | assumption | exact Below.refl _ _ | refine Below.setCell ?_ (by show _ ≤ _; omega) _ | refine Below.drew ?_ | refine below_alloc ?_ _))))).mono ?_; rw [HV.out]; rintro e w2 ⟨rfl, hb2⟩; have hB2 : Below w.heap.size w w2 := below_next (by (repeat' (first | assumption | exact Below.refl _ _ | refine Below.setCell ?_ (by show _ ≤ _; omega) _ | refine Below.drew ?_ | refine below_alloc ?_ _))) hb2) | (go_at_call 25; refine (number_any ⟨#[]⟩ HN2.out _ (HE.out.below (by (repeat' (first | assumption | exact Below.refl _ _ | refine Below.setCell ?_ (by show _ ≤ _; omega) _ | refine Below.drew ?_ | refine below_alloc ?_ _))))).mono ?_; rw [HN.out]; rintro e w3 ⟨rfl, hb3⟩; dsimp only [numV]; have hB3 : Below w.heap.size w w3 := below_next (by (repeat' (first | assumption | exact Below.refl _ _ | refine Below.setCell ?_ (by show _ ≤ _; omega) _ | refine Below.drew ?_ | refine below_alloc ?_ _))) hb3; have heb : Blk w3 w2.heap.size 29 #[.string ⟨#[97]⟩, .string ⟨#[]⟩, .int .i64 1, .int .i64 0, .int .i64 short, .int .i64 short, .int .i64 short, .int .i64 short, .string ⟨#[]⟩, .string ⟨#[]⟩] := Blk.below (Blk.new w2 _ _) hb3 (by simp); have g0 := heb.cell 0; have g1 := heb.cell 1; have g2 := heb.cell 2; have g3 := heb.cell 3; have g4 := heb.cell 4; have g5 := heb.cell 5; have g6 := heb.cell 6; have g7 := heb.cell 7; have g8 := heb.cell 8; have g9 := heb.cell 9; have hlt3 := heb.lt; clear heb))
  (go_ret; exact ⟨rfl, by (repeat' (first | assumption | exact Below.refl _ _ | refine Below.setCell ?_ (by show _ ≤ _; omega) _ | refine Below.drew ?_ | refine below_alloc ?_ _))⟩)
set_option maxRecDepth 100000 in
set_option maxHeartbeats 8000000 in
theorem num_mtime_none (value : ByteArray) (hs : value.size ≤ 200) (hq : value ≠ ⟨#[]⟩) (hn : numberOf value = none) (short : Int) (hsh : ¬ short < 0) (w : World) (he : EnvE w) : Calls Tryd.prog 6 #[.string value, .int .i64 short, .int .i64 3] w (Gives (.bool true) w) := by
  have hv := num_val_mtime value short
  rw [if_pos hq, hn] at hv
  dsimp only at hv
  have HV : Hid (makeV 1 ⟨#[97]⟩ ⟨#[]⟩ ⟨#[]⟩ ⟨#[]⟩ ⟨#[]⟩ 48 0 short short short short [] [(⟨#[109, 116, 105, 109, 101]⟩, value)] ⟨#[]⟩ ⟨#[]⟩ = .tuple #[.agg #[.string ⟨#[]⟩, .string ⟨#[]⟩, .int .i64 0, .int .i64 0, .int .i64 0, .int .i64 0, .int .i64 0, .int .i64 0, .string ⟨#[]⟩, .string ⟨#[]⟩], .int .i64 70]) := hv
  have HE := Lib.hid he
  have HN := Lib.hid hn
  have hne := str_nonempty.2 hq
  have HN2 : Hid (ByteArray.size value ≤ 281474976710656) := by show ByteArray.size value ≤ _; omega
  have HSZ := Lib.hid (lookup_le (g := []) (l := [(⟨#[109, 116, 105, 109, 101]⟩, value)]) (n := 281474976710656) (by simp) (by intro r hr; simp at hr; subst hr; exact HN2.out))
  have hx1 := index_s3
  have hx2 := index_l3
  clear hv he hq hn
  go_enter Tryd.func6, Tryd.ntmps6
  go_wp2_with (first | (go_at_call 18; refine (makes_any _ (HE.out.below (by (repeat' (first | assumption | exact Below.refl _ _ | refine Below.setCell ?_ (by show _ ≤ _; omega) _ | refine Below.drew ?_ | refine below_alloc ?_ _))))).mono ?_; rintro e w1 ⟨rfl, hb1⟩; have hB1 : Below w.heap.size w w1 := below_next (by (repeat' (first | assumption | exact Below.refl _ _ | refine Below.setCell ?_ (by show _ ≤ _; omega) _ | refine Below.drew ?_ | refine below_alloc ?_ _))) hb1) | (go_at_call 19; refine (make_any 1 ⟨#[97]⟩ ⟨#[]⟩ ⟨#[]⟩ ⟨#[]⟩ ⟨#[]⟩ 48 0 short short short short [] [(⟨#[109, 116, 105, 109, 101]⟩, value)] none _ 0 1 ⟨#[]⟩ ⟨#[]⟩ _ (.inl rfl) (recs_one (heap_alloc2_new w1 _ _)) (by decide) (by show 1 ≤ 1000000; decide) (by decide) (by decide) HSZ.out (HE.out.below (by (repeat' (first | assumption | exact Below.refl _ _ | refine Below.setCell ?_ (by show _ ≤ _; omega) _ | refine Below.drew ?_ | refine below_alloc ?_ _))))).mono ?_; rw [HV.out]; rintro e w2 ⟨rfl, hb2⟩; have hB2 : Below w.heap.size w w2 := below_next (by (repeat' (first | assumption | exact Below.refl _ _ | refine Below.setCell ?_ (by show _ ≤ _; omega) _ | refine Below.drew ?_ | refine below_alloc ?_ _))) hb2) | (go_at_call 25; refine (number_any value HN2.out _ (HE.out.below (by (repeat' (first | assumption | exact Below.refl _ _ | refine Below.setCell ?_ (by show _ ≤ _; omega) _ | refine Below.drew ?_ | refine below_alloc ?_ _))))).mono ?_; rw [HN.out]; rintro e w3 ⟨rfl, hb3⟩; dsimp only [numV]; have hB3 : Below w.heap.size w w3 := below_next (by (repeat' (first | assumption | exact Below.refl _ _ | refine Below.setCell ?_ (by show _ ≤ _; omega) _ | refine Below.drew ?_ | refine below_alloc ?_ _))) hb3; have heb : Blk w3 w2.heap.size 29 #[.string ⟨#[]⟩, .string ⟨#[]⟩, .int .i64 0, .int .i64 0, .int .i64 0, .int .i64 0, .int .i64 0, .int .i64 0, .string ⟨#[]⟩, .string ⟨#[]⟩] := Blk.below (Blk.new w2 _ _) hb3 (by simp); have g0 := heb.cell 0; have g1 := heb.cell 1; have g2 := heb.cell 2; have g3 := heb.cell 3; have g4 := heb.cell 4; have g5 := heb.cell 5; have g6 := heb.cell 6; have g7 := heb.cell 7; have g8 := heb.cell 8; have g9 := heb.cell 9; have hlt3 := heb.lt; clear heb))
  (go_ret; exact ⟨rfl, by (repeat' (first | assumption | exact Below.refl _ _ | refine Below.setCell ?_ (by show _ ≤ _; omega) _ | refine Below.drew ?_ | refine below_alloc ?_ _))⟩)
set_option maxRecDepth 100000 in
set_option maxHeartbeats 8000000 in
theorem num_mtime_neg (value : ByteArray) (hs : value.size ≤ 200) (hq : value ≠ ⟨#[]⟩) (n : Int) (hn : numberOf value = some n) (h0 : n < 0) (short : Int) (hsh : ¬ short < 0) (w : World) (he : EnvE w) : Calls Tryd.prog 6 #[.string value, .int .i64 short, .int .i64 3] w (Gives (.bool true) w) := by
  have hv := num_val_mtime value short
  rw [if_pos hq, hn] at hv
  dsimp only at hv
  unfold finV at hv
  rw [if_neg (by omega)] at hv
  have HV : Hid (makeV 1 ⟨#[97]⟩ ⟨#[]⟩ ⟨#[]⟩ ⟨#[]⟩ ⟨#[]⟩ 48 0 short short short short [] [(⟨#[109, 116, 105, 109, 101]⟩, value)] ⟨#[]⟩ ⟨#[]⟩ = .tuple #[.agg #[.string ⟨#[97]⟩, .string ⟨#[]⟩, .int .i64 1, .int .i64 0, .int .i64 short, .int .i64 short, .int .i64 n, .int .i64 short, .string ⟨#[]⟩, .string ⟨#[]⟩], .int .i64 0]) := hv
  have HE := Lib.hid he
  have HN := Lib.hid hn
  have hne := str_nonempty.2 hq
  have HN2 : Hid (ByteArray.size value ≤ 281474976710656) := by show ByteArray.size value ≤ _; omega
  have HSZ := Lib.hid (lookup_le (g := []) (l := [(⟨#[109, 116, 105, 109, 101]⟩, value)]) (n := 281474976710656) (by simp) (by intro r hr; simp at hr; subst hr; exact HN2.out))
  have hx1 := index_s3
  have hx2 := index_l3
  clear hv he hq hn
  go_enter Tryd.func6, Tryd.ntmps6
  go_wp2_with (first | (go_at_call 18; refine (makes_any _ (HE.out.below (by (repeat' (first | assumption | exact Below.refl _ _ | refine Below.setCell ?_ (by show _ ≤ _; omega) _ | refine Below.drew ?_ | refine below_alloc ?_ _))))).mono ?_; rintro e w1 ⟨rfl, hb1⟩; have hB1 : Below w.heap.size w w1 := below_next (by (repeat' (first | assumption | exact Below.refl _ _ | refine Below.setCell ?_ (by show _ ≤ _; omega) _ | refine Below.drew ?_ | refine below_alloc ?_ _))) hb1) | (go_at_call 19; refine (make_any 1 ⟨#[97]⟩ ⟨#[]⟩ ⟨#[]⟩ ⟨#[]⟩ ⟨#[]⟩ 48 0 short short short short [] [(⟨#[109, 116, 105, 109, 101]⟩, value)] none _ 0 1 ⟨#[]⟩ ⟨#[]⟩ _ (.inl rfl) (recs_one (heap_alloc2_new w1 _ _)) (by decide) (by show 1 ≤ 1000000; decide) (by decide) (by decide) HSZ.out (HE.out.below (by (repeat' (first | assumption | exact Below.refl _ _ | refine Below.setCell ?_ (by show _ ≤ _; omega) _ | refine Below.drew ?_ | refine below_alloc ?_ _))))).mono ?_; rw [HV.out]; rintro e w2 ⟨rfl, hb2⟩; have hB2 : Below w.heap.size w w2 := below_next (by (repeat' (first | assumption | exact Below.refl _ _ | refine Below.setCell ?_ (by show _ ≤ _; omega) _ | refine Below.drew ?_ | refine below_alloc ?_ _))) hb2) | (go_at_call 25; refine (number_any value HN2.out _ (HE.out.below (by (repeat' (first | assumption | exact Below.refl _ _ | refine Below.setCell ?_ (by show _ ≤ _; omega) _ | refine Below.drew ?_ | refine below_alloc ?_ _))))).mono ?_; rw [HN.out]; rintro e w3 ⟨rfl, hb3⟩; dsimp only [numV]; have hB3 : Below w.heap.size w w3 := below_next (by (repeat' (first | assumption | exact Below.refl _ _ | refine Below.setCell ?_ (by show _ ≤ _; omega) _ | refine Below.drew ?_ | refine below_alloc ?_ _))) hb3; have heb : Blk w3 w2.heap.size 29 #[.string ⟨#[97]⟩, .string ⟨#[]⟩, .int .i64 1, .int .i64 0, .int .i64 short, .int .i64 short, .int .i64 n, .int .i64 short, .string ⟨#[]⟩, .string ⟨#[]⟩] := Blk.below (Blk.new w2 _ _) hb3 (by simp); have g0 := heb.cell 0; have g1 := heb.cell 1; have g2 := heb.cell 2; have g3 := heb.cell 3; have g4 := heb.cell 4; have g5 := heb.cell 5; have g6 := heb.cell 6; have g7 := heb.cell 7; have g8 := heb.cell 8; have g9 := heb.cell 9; have hlt3 := heb.lt; clear heb))
  (go_ret; exact ⟨rfl, by (repeat' (first | assumption | exact Below.refl _ _ | refine Below.setCell ?_ (by show _ ≤ _; omega) _ | refine Below.drew ?_ | refine below_alloc ?_ _))⟩)
set_option maxRecDepth 100000 in
set_option maxHeartbeats 8000000 in
theorem num_mtime_pos (value : ByteArray) (hs : value.size ≤ 200) (hq : value ≠ ⟨#[]⟩) (n : Int) (hn : numberOf value = some n) (h0 : ¬ n < 0) (short : Int) (hsh : ¬ short < 0) (w : World) (he : EnvE w) : Calls Tryd.prog 6 #[.string value, .int .i64 short, .int .i64 3] w (Gives (.bool true) w) := by
  have hv := num_val_mtime value short
  rw [if_pos hq, hn] at hv
  dsimp only at hv
  unfold finV at hv
  rw [if_neg (by omega)] at hv
  have HV : Hid (makeV 1 ⟨#[97]⟩ ⟨#[]⟩ ⟨#[]⟩ ⟨#[]⟩ ⟨#[]⟩ 48 0 short short short short [] [(⟨#[109, 116, 105, 109, 101]⟩, value)] ⟨#[]⟩ ⟨#[]⟩ = .tuple #[.agg #[.string ⟨#[97]⟩, .string ⟨#[]⟩, .int .i64 1, .int .i64 0, .int .i64 short, .int .i64 short, .int .i64 n, .int .i64 short, .string ⟨#[]⟩, .string ⟨#[]⟩], .int .i64 0]) := hv
  have HE := Lib.hid he
  have HN := Lib.hid hn
  have hne := str_nonempty.2 hq
  have HN2 : Hid (ByteArray.size value ≤ 281474976710656) := by show ByteArray.size value ≤ _; omega
  have HSZ := Lib.hid (lookup_le (g := []) (l := [(⟨#[109, 116, 105, 109, 101]⟩, value)]) (n := 281474976710656) (by simp) (by intro r hr; simp at hr; subst hr; exact HN2.out))
  have hx1 := index_s3
  have hx2 := index_l3
  clear hv he hq hn
  go_enter Tryd.func6, Tryd.ntmps6
  go_wp2_with (first | (go_at_call 18; refine (makes_any _ (HE.out.below (by (repeat' (first | assumption | exact Below.refl _ _ | refine Below.setCell ?_ (by show _ ≤ _; omega) _ | refine Below.drew ?_ | refine below_alloc ?_ _))))).mono ?_; rintro e w1 ⟨rfl, hb1⟩; have hB1 : Below w.heap.size w w1 := below_next (by (repeat' (first | assumption | exact Below.refl _ _ | refine Below.setCell ?_ (by show _ ≤ _; omega) _ | refine Below.drew ?_ | refine below_alloc ?_ _))) hb1) | (go_at_call 19; refine (make_any 1 ⟨#[97]⟩ ⟨#[]⟩ ⟨#[]⟩ ⟨#[]⟩ ⟨#[]⟩ 48 0 short short short short [] [(⟨#[109, 116, 105, 109, 101]⟩, value)] none _ 0 1 ⟨#[]⟩ ⟨#[]⟩ _ (.inl rfl) (recs_one (heap_alloc2_new w1 _ _)) (by decide) (by show 1 ≤ 1000000; decide) (by decide) (by decide) HSZ.out (HE.out.below (by (repeat' (first | assumption | exact Below.refl _ _ | refine Below.setCell ?_ (by show _ ≤ _; omega) _ | refine Below.drew ?_ | refine below_alloc ?_ _))))).mono ?_; rw [HV.out]; rintro e w2 ⟨rfl, hb2⟩; have hB2 : Below w.heap.size w w2 := below_next (by (repeat' (first | assumption | exact Below.refl _ _ | refine Below.setCell ?_ (by show _ ≤ _; omega) _ | refine Below.drew ?_ | refine below_alloc ?_ _))) hb2) | (go_at_call 25; refine (number_any value HN2.out _ (HE.out.below (by (repeat' (first | assumption | exact Below.refl _ _ | refine Below.setCell ?_ (by show _ ≤ _; omega) _ | refine Below.drew ?_ | refine below_alloc ?_ _))))).mono ?_; rw [HN.out]; rintro e w3 ⟨rfl, hb3⟩; dsimp only [numV]; have hB3 : Below w.heap.size w w3 := below_next (by (repeat' (first | assumption | exact Below.refl _ _ | refine Below.setCell ?_ (by show _ ≤ _; omega) _ | refine Below.drew ?_ | refine below_alloc ?_ _))) hb3; have heb : Blk w3 w2.heap.size 29 #[.string ⟨#[97]⟩, .string ⟨#[]⟩, .int .i64 1, .int .i64 0, .int .i64 short, .int .i64 short, .int .i64 n, .int .i64 short, .string ⟨#[]⟩, .string ⟨#[]⟩] := Blk.below (Blk.new w2 _ _) hb3 (by simp); have g0 := heb.cell 0; have g1 := heb.cell 1; have g2 := heb.cell 2; have g3 := heb.cell 3; have g4 := heb.cell 4; have g5 := heb.cell 5; have g6 := heb.cell 6; have g7 := heb.cell 7; have g8 := heb.cell 8; have g9 := heb.cell 9; have hlt3 := heb.lt; clear heb))
  (go_ret; exact ⟨rfl, by (repeat' (first | assumption | exact Below.refl _ _ | refine Below.setCell ?_ (by show _ ≤ _; omega) _ | refine Below.drew ?_ | refine below_alloc ?_ _))⟩)
end Go.Proofs.YtcgopeneoignpaaDoor
