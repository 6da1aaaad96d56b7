/-
 strings.ContainsAny of any text, for the three signs that a record's key may not have.
-/
import Derived.Test.YtpbpfngichfgeaaGreatDoorPaxW
import Derived.Laws.Runes
import Derived.Laws.RangeAny
import Derived.Lib.DecodeN
import Derived.Lib.SpaceUEq
import Derived.Lib.QuoteLoop
import Derived.Deep.QuietTactic
import Derived.BigQuiet
import Derived.Deep.LoopGhost
import Derived.Lib.OthersKept
import Derived.Deep.RegionHeld3
import Derived.Outline
namespace Go.Proofs.YtpbpfngichfgeaaGreatDoor
set_option linter.unusedVariables false
set_option linter.unusedSimpArgs false
open Go.RowKit Go.Lib

abbrev C3 : ByteArray := ⟨#[61, 0, 10]⟩
theorem valid_any (r : Int) (h : Utf8.valid r = true) (w : World) : Calls Tryz.prog 134 #[.int .i32 r] w fun e w' => e = .returned (.bool true) ∧ w = w' := by
 have hr : (0 ≤ r ∧ r < 55296) ∨ (57343 < r ∧ r ≤ 1114111) := by
  simp [Utf8.valid] at h
  omega
 rcases hr with ⟨h0, h1⟩ | ⟨h0, h1⟩
 ·go_enter Tryz.func134, Tryz.ntmps134
  go_wp2
  go_ret
  exact ⟨rfl, rfl⟩
 ·have g0 : (0 : Int) ≤ r := by omega
  have g1 : ¬ r < 55296 := by omega
  go_enter Tryz.func134, Tryz.ntmps134
  go_wp2
  go_ret
  exact ⟨rfl, rfl⟩

theorem below_iter (w : World) (s : ByteArray) (pos : Nat) : Below w.heap.size w (w.iter s pos) := by
 unfold World.iter
 exact (Below.refl _ _).alloc (Nat.le_refl _) _
theorem strings_IndexByte_miss (s : ByteArray) (c : UInt8) (h : c ∉ s.data.toList) (w : World) : Calls Tryz.prog 133 #[.string s, .int .u8 (c.toNat : Nat)] w fun e w' => e = .returned (.int .i64 (-1)) ∧ w' = w := by
 have hm : ∀ l : List UInt8, c ∉ l → Lib.indexByte l c = -1 := by
  intro l hl
  induction l with
  | nil => rfl
  | cons b l ih =>
   have hb : (b == c) = false := by rw [beq_eq_false_iff_ne]; rintro rfl; simp at hl
   have := ih (fun h => hl (by simp [h]))
   simp [Lib.indexByte, hb, this]
 have h2 := Tryz.strings_IndexByte s (c.toNat : Nat) w
 have e : ((c.toNat : Nat) : Int).toNat.toUInt8 = c := by simp
 rw [e, hm _ h] at h2
 exact h2
set_option maxRecDepth 100000 in
set_option maxHeartbeats 2000000 in
theorem indexRune_high (r : Int) (h0 : 128 ≤ r) (hv : Utf8.valid r = true) (w : World) : Calls Tryz.prog 115 #[.string C3, .int .i32 r] w (Gives (.int .i64 (-1)) w) := by
 have g1 : ¬ r < 128 := by omega
 have g2 : (0 : Int) ≤ r := by omega
 by_cases he : r = 65533
 ·subst he
  go_enter Tryz.func115, Tryz.ntmps115
  go_wp2
  have n0 := fun ty => run_next_ascii (P := Tryz.prog) w C3 0 ty (by decide) (by decide)
  have n1 := fun ty => run_next_ascii (P := Tryz.prog) w C3 1 ty (by decide) (by decide)
  have n2 := fun ty => run_next_ascii (P := Tryz.prog) w C3 2 ty (by decide) (by decide)
  have n3 := fun ty => run_next_end (P := Tryz.prog) w C3 3 ty (by decide)
  refine wp_loop_rounds 5 ?_
  rw [rounds_succ]
  go_wp2
  rw [rounds_succ]
  go_wp2
  rw [rounds_succ]
  go_wp2
  rw [rounds_succ]
  go_wp2
  go_ret
  exact ⟨rfl, below_iter _ _ _⟩
 ·have hne : (r == 65533) = false := by simpa using he
  obtain ⟨S, hS⟩ : ∃ S, Utf8.encode r = S := ⟨_, rfl⟩
  obtain ⟨e1, e2, e3⟩ := encode_facts r hv h0
  rw [hS] at e1 e2 e3
  have hcv : ∀ wx, (convert 21 9 (.int .i32 r)).run Tryz.prog wx = .ok (.string S) wx := fun wx => by rw [run_convert_int_string wx _ _ _ _ (by rw [Tryz.underlying21]; rfl) Tryz.underlying9, hS]
  have hlast := e3 (by omega)
  obtain ⟨n, hn⟩ : ∃ n : Nat, S.size = n + 1 := ⟨S.size - 1, by omega⟩
  obtain ⟨c, hc⟩ : ∃ c : UInt8, S[S.size - 1]'(by omega) = c := ⟨_, rfl⟩
  rw [hc] at hlast
  have hix : ∀ wx, (Instr.index 9 (.string S) (.int .i64 (n : Nat))).run Tryz.prog wx = .ok (.int .u8 (c.toNat : Nat)) wx := fun wx => by
   rw [run_index_string wx _ S .i64 _ Tryz.underlying9, dif_pos ⟨by omega, by omega⟩, ← hc]
   congr 3
   simp [hn]
  have hcu : c.toNat < 256 := c.toNat_lt
  have HV := Lib.hid hv
  have hn3 : n = 1 ∨ n = 2 ∨ n = 3 := by omega
  clear hS e3 hv he hix
  rcases hn3 with rfl | rfl | rfl
  ·have hk : 1 < S.size := by omega
   have hck : S[1]'hk = c := by rw [← hc]; congr 1; omega
   have hq : ((0 : Int) != ((S[1]'hk).toNat : Int)) = true := by rw [hck, bne_iff_ne]; omega
   have hC : ∀ wx, (Instr.index 9 (.string C3) (.int .i64 1)).run Tryz.prog wx = .ok (.int .u8 0) wx := fun _ => by kernel_rfl
   have hw1 : IntKind.i64.wrap 2 = 2 := by decide
   have hw1b : IntKind.i64.wrap (((1 : Nat) : Int) + 1) = 2 := by decide
   have hw1c : IntKind.i64.wrap (((1 : Nat) : Int) + 1) = 2 := by decide
   have hsl : ∀ wx, (Instr.slice 9 (.string C3) (some (.int .i64 2)) none none).run Tryz.prog wx = .ok (.string ⟨#[10]⟩) wx := fun _ => by kernel_rfl
   have hib := strings_IndexByte_miss ⟨#[10]⟩ (S[1]'hk) (by rw [hck]; intro h; simp at h; rw [h] at hlast; simp at hlast)
   clear hck hc hlast hcu e1
   go_enter Tryz.func115, Tryz.ntmps115
   go_wp2_with (go_at_call 134; refine (valid_any r HV.out _).mono ?_; rintro e w' ⟨rfl, rfl⟩)
   go_step3
   go_wp2
   refine wp_loop_rounds 2 ?_
   rw [rounds_succ]
   go_wp2
   go_step3
   go_wp2
   go_quiet (fail)
   generalize hwq : World.drewN w _ = wq
   have hbq : Below w.heap.size w wq := by rw [← hwq]; exact below_drewN' (Below.refl _ _) _
   clear hwq
   go_wp2
   go_region_held3 (fun w' => Hid (wq.heap.size ≤ w'.heap.size)) (exact (show wq.heap.size ≤ _ from Nat.le_refl _)) (first | (go_at_call 133; refine (hib _).mono ?_; rintro e w' ⟨rfl, rfl⟩))
   all_goals (go_wp2; (try rw [Exit.noGoto_ret]); go_ret; exact ⟨rfl, by (repeat' (first | assumption | refine Below.drew ?_))⟩)
  ·have hk : 2 < S.size := by omega
   have hck : S[2]'hk = c := by rw [← hc]; congr 1; omega
   have hq : ((10 : Int) != ((S[2]'hk).toNat : Int)) = true := by rw [hck, bne_iff_ne]; omega
   have hC : ∀ wx, (Instr.index 9 (.string C3) (.int .i64 2)).run Tryz.prog wx = .ok (.int .u8 10) wx := fun _ => by kernel_rfl
   have hw2 : IntKind.i64.wrap 3 = 3 := by decide
   have hw2b : IntKind.i64.wrap (((1 : Nat) : Int) + 2) = 3 := by decide
   have hw2c : IntKind.i64.wrap (((2 : Nat) : Int) + 1) = 3 := by decide
   have hsl : ∀ wx, (Instr.slice 9 (.string C3) (some (.int .i64 3)) none none).run Tryz.prog wx = .ok (.string ⟨#[]⟩) wx := fun _ => by kernel_rfl
   have hib := strings_IndexByte_miss ⟨#[]⟩ (S[2]'hk) (by rw [hck]; simp)
   clear hck hc hlast hcu e1
   go_enter Tryz.func115, Tryz.ntmps115
   go_wp2_with (go_at_call 134; refine (valid_any r HV.out _).mono ?_; rintro e w' ⟨rfl, rfl⟩)
   go_step3
   go_wp2
   refine wp_loop_rounds 2 ?_
   rw [rounds_succ]
   go_wp2
   go_step3
   go_wp2
   go_quiet (fail)
   generalize hwq : World.drewN w _ = wq
   have hbq : Below w.heap.size w wq := by rw [← hwq]; exact below_drewN' (Below.refl _ _) _
   clear hwq
   go_wp2
   go_region_held3 (fun w' => Hid (wq.heap.size ≤ w'.heap.size)) (exact (show wq.heap.size ≤ _ from Nat.le_refl _)) (first | (go_at_call 133; refine (hib _).mono ?_; rintro e w' ⟨rfl, rfl⟩))
   all_goals (go_wp2; (try rw [Exit.noGoto_ret]); go_ret; exact ⟨rfl, by (repeat' (first | assumption | refine Below.drew ?_))⟩)
  ·clear hc hlast hcu
   go_enter Tryz.func115, Tryz.ntmps115
   go_wp2_with (go_at_call 134; refine (valid_any r HV.out _).mono ?_; rintro e w' ⟨rfl, rfl⟩)
   go_step3
   go_wp2
   refine wp_loop_rounds 2 ?_
   rw [rounds_succ]
   go_wp2
   (try rw [Exit.noGoto_ret])
   go_ret
   exact ⟨rfl, Below.refl _ _⟩

theorem noAny_more {l chars : List UInt8} {i k : Nat} (h : Lib.NoAny l chars i) (hk : ∀ j, i ≤ j → j < i + k → ∃ x, l[j]? = some x ∧ chars.contains x = false) : Lib.NoAny l chars (i + k) := by
 induction k with
 | zero => exact h
 | succ k ih =>
  obtain ⟨x, hx, hc⟩ := hk (i + k) (by omega) (by omega)
  exact (ih fun j h1 h2 => hk j h1 (by omega)).succ hx hc
theorem high_not (x : UInt8) (h : 128 ≤ x.toNat) : ([61, 0, 10] : List UInt8).contains x = false := by
 simp only [List.contains_eq_any_beq, List.any_cons, List.any_nil, Bool.or_false, Bool.or_eq_false_iff, beq_eq_false_iff_ne]
 refine ⟨?_, ?_, ?_⟩ <;> (rintro rfl; simp at h)
theorem decode_high_facts (s : ByteArray) (i : Nat) (h : i < s.size) (ha : 128 ≤ (s[i]'h).toNat) :
  ∃ r wd : Nat, Utf8.decode s i = (r, wd) ∧ 128 ≤ r ∧ Utf8.valid (r : Int) = true ∧ 1 ≤ wd ∧ i + wd ≤ s.size ∧ ∀ j, i ≤ j → j < i + wd → ∃ x, s.data.toList[j]? = some x ∧ ([61, 0, 10] : List UInt8).contains x = false := by
 obtain ⟨h1, h2⟩ := decode_high s i h ha
 have hat := Lib.decode_at s i
 have hget : ∀ k, i + k < s.size → s.data.toList[i + k]? = some (s.get! (i + k)) := fun k hk => by
  rw [Lib.data_getElem? s (i + k) hk]
  simp [ByteArray.get!, getElem!_pos, hk]
  rfl
 have hb0 : (s.get! i).toNat < 256 := (s.get! i).toNat_lt
 have hv := Lib.decodeN_valid (s.size - i) (s.get! i).toNat (s.get! (i + 1)).toNat (s.get! (i + 2)).toNat (s.get! (i + 3)).toNat hb0
 have hc := Lib.decodeN_conts (s.size - i) (s.get! i).toNat (s.get! (i + 1)).toNat (s.get! (i + 2)).toNat (s.get! (i + 3)).toNat
 rw [← hat] at hv hc
 obtain ⟨r, wd, hr⟩ : ∃ r wd, Utf8.decode s i = (r, wd) := ⟨_, _, rfl⟩
 rw [hr] at h1 h2 hv hc
 simp only at h1 h2 hv hc
 have c0 := hget 0 (by omega)
 have e0 : s.get! (i + 0) = s[i]'h := by simp [ByteArray.get!, getElem!_pos, h]; rfl
 refine ⟨r, wd, hr, h1, ?_, h2, ?_, ?_⟩
 ·simp [Utf8.valid]; omega
 ·obtain ⟨a, b, c, d⟩ := hc; omega
 ·intro j j0 j1
  obtain ⟨a, b, c, d⟩ := hc
  obtain ⟨k, rfl⟩ : ∃ k, j = i + k := ⟨j - i, by omega⟩
  refine ⟨_, hget k (by omega), high_not _ ?_⟩
  rcases (by omega : k = 0 ∨ k = 1 ∨ k = 2 ∨ k = 3) with rfl | rfl | rfl | rfl
  ·rw [e0]; exact ha
  ·have := (a (by omega)).1; omega
  ·have := (b (by omega)).1; omega
  ·have := (c (by omega)).1; omega

set_option maxRecDepth 100000 in
set_option maxHeartbeats 4000000 in
theorem indexAny_any (s : ByteArray) (hs : s.size < 4294967281) (w : World) : Calls Tryz.prog 103 #[.string s, .string C3] w (Gives (.int .i64 (Lib.indexAny s.data.toList [61, 0, 10])) w) := by
 rcases Nat.lt_or_ge 8 s.size with h8 | h8
 ·have h116 : (Tryz.prog.info? 204).map (fun i => (i.zero, i.size)) = some (some (.agg (Array.replicate 256 (.bool false))), 256) := by kernel_rfl
  refine (Tryz.strings_IndexAny_long (zero_of_info h116).1 s C3 w (by decide) h8 hs (by decide) (fun j b hb => ?_)).mono fun e w' ⟨a, b⟩ => ⟨a, by subst b; exact ((Below.refl _ _).alloc (Nat.le_refl _) _).alloc (by simp) _⟩
  have : b ∈ ([61, 0, 10] : List UInt8) := List.mem_of_getElem? hb
  simp at this
  rcases this with rfl | rfl | rfl <;> decide
 ·have h8z : decide ((8 : Int) < (s.size : Int)) = false := decide_eq_false (by omega)
  go_enter Tryz.func103, Tryz.ntmps103
  go_wp2_with (go_at_call 116; refine (Tryz.strings_shouldUseASCIISet _ _).mono ?_; rintro e w' ⟨rfl, hw⟩; rw [hw, h8z])
  go_loopg [9, 10] s.size (fun g _ _ wx => ∃ i : Nat, i ≤ s.size ∧ s.size ≤ i + g ∧ wx.heap[w.heap.size]? = some (.stringIter s i) ∧ Below w.heap.size w wx ∧ Hid (Lib.NoAny s.data.toList [61, 0, 10] i))
  case atStart => exact ⟨0, by omega, by omega, World.iter_heap w s 0, below_iter _ _ _, Lib.NoAny.zero _ _⟩
  case round =>
   obtain ⟨i, hi0, hig, hit, hbx, HN⟩ := hrel
   have HIT := Lib.hid hit
   by_cases hend : i = s.size
   ·subst hend
    have hnx := fun ty => run_next_end_at (P := Tryz.prog) _ w.heap.size s s.size ty hit (by omega)
    clear hit
    go_wp2
    go_ret
    exact ⟨by rw [Lib.indexAny_none (by rw [← Lib.size_eq]; exact HN.out)]; rfl, hbx⟩
   ·have hi : i < s.size := by omega
    cases gk with
    | zero => omega
    | succ g =>
     obtain ⟨x, hx⟩ : ∃ x : UInt8, s[i]'hi = x := ⟨_, rfl⟩
     have hxl : s.data.toList[i]? = some x := by rw [← hx]; exact Lib.data_getElem? s i hi
     by_cases hx128 : x.toNat < 128
     ·have hnx := fun ty => run_next_ascii_at (P := Tryz.prog) _ w.heap.size s i ty hit hi (by rw [hx]; exact hx128)
      rw [hx] at hnx
      have Hx := Lib.hid hxl
      clear hxl hx hit
      have hcon := Lib.contains_iff_indexByte [61, 0, 10] x
      have hback : ((x.toNat : Int)).toNat.toUInt8 = x := by simp
      cases hin : ([61, 0, 10] : List UInt8).contains x
      ·rw [hin] at hcon
       have hlt : ¬ ((0 : Int) ≤ Lib.indexByte [61, 0, 10] x) := of_decide_eq_false hcon.symm
       have HIN := Lib.hid hin
       clear hcon hin
       go_wp2_with (go_at_call 115; refine (Tryz.strings_IndexRune_ascii _ _ _ (by omega) (by omega)).mono ?_; rintro e w' ⟨rfl, hw⟩; rw [hw, hback])
       go_roundg g
       case measure => omega
       case rel => exact ⟨i + 1, by omega, by omega, iterAt_heap _ _ _ _ _ HIT.out, below_iterAt hbx (Nat.le_refl _) _ _, HN.out.succ Hx.out HIN.out⟩
      ·rw [hin] at hcon
       have hge : (0 : Int) ≤ Lib.indexByte [61, 0, 10] x := of_decide_eq_true hcon.symm
       have HIN := Lib.hid hin
       clear hcon hin
       go_wp2_with (go_at_call 115; refine (Tryz.strings_IndexRune_ascii _ _ _ (by omega) (by omega)).mono ?_; rintro e w' ⟨rfl, hw⟩; rw [hw, hback])
       go_ret
       exact ⟨by rw [Lib.indexAny_hit HN.out Hx.out HIN.out]; rfl, below_iterAt hbx (Nat.le_refl _) _ _⟩
     ·obtain ⟨r, wd, hd, d0, d1, d2, d3, d4⟩ := decode_high_facts s i hi (by rw [hx]; omega)
      have hnx := fun ty => run_next_any_at (P := Tryz.prog) _ w.heap.size s i ty hit hi
      rw [hd] at hnx
      have HV := Lib.hid d1
      have HN4 : Hid (Lib.NoAny s.data.toList [61, 0, 10] (i + wd)) := noAny_more HN.out d4
      clear hd d1 d4 hx hxl hx128 hit
      go_wp2_with (go_at_call 115; refine (indexRune_high (r : Int) (by omega) HV.out _).mono ?_; rintro e w2 ⟨rfl, hb2⟩; have B2 := below_next (below_iterAt hbx (Nat.le_refl _) s (i + wd)) hb2; have h2 := (hb2.block _ (by rw [iterAt_size]; exact (Array.getElem?_eq_some_iff.1 HIT.out).1)).trans (iterAt_heap _ _ _ _ (i + wd) HIT.out); have H2 := Lib.hid h2; clear h2)
      go_roundg g
      case measure => omega
      case rel => exact ⟨i + wd, by omega, by omega, H2.out, B2, HN4⟩

set_option maxRecDepth 100000 in
theorem cany_any : CAny := by
 intro s w hs
 obtain ⟨q, hq⟩ : ∃ q, Lib.indexAny s.data.toList [61, 0, 10] = q := ⟨_, rfl⟩
 have hk : badKey s = decide (0 ≤ q) := by
  rw [← hq]
  unfold badKey
  generalize s.data.toList = l
  induction l with
  | nil => rfl
  | cons b l ih =>
   have hge := Lib.indexAny_ge [61, 0, 10] l
   have hcb : ([61, 0, 10] : List UInt8).contains b = (b == 61 || b == 0 || b == 10) := by
    simp only [List.contains_eq_any_beq, List.any_cons, List.any_nil, Bool.or_false, Bool.or_assoc]
   rw [List.any_cons, ih, Lib.indexAny, hcb]
   cases (b == 61 || b == 0 || b == 10)
   ·simp only [Bool.false_or, Bool.false_eq_true, if_false]
    by_cases h : Lib.indexAny l [61, 0, 10] = -1
    ·simp [h]
    ·simp [h]; omega
   ·simp
 rw [hk]
 have HC : Hid (∀ w, Calls Tryz.prog 103 #[.string s, .string C3] w (Gives (.int .i64 q) w)) := fun w => hq ▸ indexAny_any s hs w
 clear hq hk
 by_cases h0 : 0 ≤ q
 ·have hd : decide (0 ≤ q) = true := decide_eq_true h0
  rw [hd]
  go_enter Tryz.func78, Tryz.ntmps78
  go_wp2_with (go_at_call 103; refine (HC.out _).mono ?_; rintro e w1 ⟨rfl, hb1⟩)
  go_ret
  exact ⟨rfl, hb1⟩
 ·have hd : decide (0 ≤ q) = false := decide_eq_false h0
  rw [hd]
  go_enter Tryz.func78, Tryz.ntmps78
  go_wp2_with (go_at_call 103; refine (HC.out _).mono ?_; rintro e w1 ⟨rfl, hb1⟩)
  go_ret
  exact ⟨rfl, hb1⟩
end Go.Proofs.YtpbpfngichfgeaaGreatDoor
