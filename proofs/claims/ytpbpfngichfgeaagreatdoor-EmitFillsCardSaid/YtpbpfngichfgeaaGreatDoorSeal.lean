/-
 sum.Seal by a contract.
-/
import Derived.Test.YtpbpfngichfgeaaGreatDoorSum
import Derived.Test.YtpbpfngichfgeaaGreatDoorCopyS
import Derived.Test.YtpbpfngichfgeaaGreatDoorOctR
import Derived.Deep.RegionHeld3
import Derived.Outline
namespace Go.Proofs.YtpbpfngichfgeaaGreatDoor
set_option linter.unusedVariables false
set_option linter.unusedSimpArgs false
open Go Go.RowKit Go.Proofs.YtpbpfngichfgeaaGreatDoorW.PrintWords Go.Proofs.YtpbpfngichfgeaaGreatDoorW.PrintLast Go.Proofs.YtpbpfngichfgeaaGreatDoorW.PrintMore

def dropC : Nat → Code → Code
 | 0, c => c
 | n + 1, .seq _ b => dropC n b
 | _ + 1, c => c
abbrev u8 (x : Int) : Value := .int .u8 x
def sealL (l field : List Int) : List Int := l.take 148 ++ (field ++ [32] ++ l.drop 156)
def SealEnd (l : List Int) (w : World) (e : Ending) (w' : World) : Prop := ∃ v, e = .returned (.tuple #[v, .int .i64 0]) ∧ Kd.R (Kd.int .u8) 5 w' w.heap.size (fun _ => True) v l ∧ Below w.heap.size w w'
theorem own_below {w w' : World} {base : Nat} {e : TypeId} {size n : Nat} {v : Value} {xs : List Value} (h : w.ownsRow base e size v n xs) (hb : Below w.heap.size w w') : w'.ownsRow base e size v n xs := own_move h fun k hk => hb.block k (own_lt h k hk)
theorem splice_take {cur L F : List Value} {n off : Nat} (h : cur.take n = L) (hL : L.length = n) (hf : off + F.length ≤ n) : (splice cur off F).take n = splice L off F := by
 have hc : cur = L ++ cur.drop n := by rw [← h, List.take_append_drop]
 generalize cur.drop n = R at hc
 subst hc
 unfold splice
 have e1 : (L ++ R).take off = L.take off := List.take_append_of_le_length (by omega)
 have e2 : (L ++ R).drop (off + F.length) = L.drop (off + F.length) ++ R := List.drop_append_of_le_length (by omega)
 rw [e1, e2]
 have e3 : L.take off ++ (F ++ (L.drop (off + F.length) ++ R)) = (L.take off ++ (F ++ L.drop (off + F.length))) ++ R := by simp [List.append_assoc]
 rw [e3]
 have e4 : (L.take off ++ (F ++ L.drop (off + F.length))).length = n := by simp; omega
 rw [List.take_append_of_le_length (by omega), List.take_of_length_le (by omega)]
theorem cells_of_own {w : World} {base : Nat} {e : TypeId} {g n cap : Nat} {xs : List Value} (h : w.ownsRow base e 1 (.slice (some ⟨g, 0, none⟩) n cap) n xs) : ∀ j v, xs[j]? = some v → w.cell? ((⟨g, 0, none⟩ : Addr).add j) = some v := by
 obtain ⟨hl, hq | ⟨g', cap', cur, hv, _, hh, _, _, hcs, htk⟩⟩ := h
 ·cases hq.1
 ·cases hv
  intro j v hj
  rw [← htk] at hj
  have hj2 : cur.toList[j]? = some v := by
   rw [List.getElem?_take] at hj
   split at hj
   ·exact hj
   ·cases hj
  exact World.news_of_block hh j v hj2
theorem infoB : (Tryz.prog.info? 5).map (fun i => (i.zero, i.size, i.bytes)) = some (some (.int .u8 0), 1, 1) := by kernel_rfl
set_option maxHeartbeats 4000000 in
set_option maxRecDepth 100000 in
theorem seal_any (A : Option Addr) (c : Nat) (l : List Int) (w : World) (hC : Kd.C (Kd.int .u8) w A l.length l) (hr : ∀ x ∈ l, 0 ≤ x ∧ x < 256) (hl : l.length = 512) (k : Nat) (field : List Int) (hf : POct.octal_Format.f k (psum l 512) 7 = some (field, 0)) (hfl : field.length = 7) :
  Calls Tryz.prog 35 #[.slice A l.length c] w (SealEnd (sealL l field) w) := by
 obtain ⟨i0, hi, hz0, hz1, hz2⟩ := info_parts infoB
 obtain ⟨ad, rfl, _⟩ := Kd.at_int hC 0 (by omega) (by omega)
 have HC := Lib.hid hC
 have HR := Lib.hid hr
 have HF := Lib.hid hf
 have HFL := Lib.hid hfl
 have HL := Lib.hid hl
 rw [hl]
 clear hC hr hf hfl hl
 go_enter Tryz.func35, Tryz.ntmps35
 have H0 : (w.alloc (.cells #[] 5)).ownsRow w.heap.size 5 1 (.slice (some ⟨w.heap.size, 0, none⟩) 0 0) 0 [] := ⟨rfl, .inr ⟨_, 0, #[], rfl, Nat.le_refl _, heap_alloc_new w _, Nat.le_refl _, Nat.zero_le _, rfl, rfl⟩⟩
 have HN : ∀ j u, (l.map u8)[j]? = some u → (w.alloc (.cells #[] 5)).cell? (ad.add j) = some u := by
  intro j u hu
  have hj : j < l.length := by have := (List.getElem?_eq_some_iff.1 hu).1; simpa using this
  obtain ⟨ad', e', hc⟩ := Kd.at_int HC.out j (by omega) (by omega)
  cases e'
  simp only [Int.toNat_natCast] at hc
  have hu2 : u = .int .u8 (rd l j) := by
   rw [List.getElem?_map, List.getElem?_eq_getElem hj] at hu
   have := Option.some.inj hu
   rw [← this]
   simp [rd, hj]
  rw [hu2]
  exact cell_old hc
 have H0' := Lib.hid H0
 have HN' := Lib.hid HN
 clear H0 HN
 go_upto_region 4 with (at_builtin; refine wpList_append_lies _ rfl _ _ _ rfl w.heap.size 5 i0 (.int .u8 0) 1 1 Tryz.underlying32 hi hz0 hz1 hz2 rfl (by omega) _ 0 [] rfl H0'.out ad 512 c (l.map u8) rfl (by rw [List.length_map, HL.out]) HN'.out (by intro u hu; obtain ⟨x, _, rfl⟩ := List.mem_map.1 hu; rfl) (by omega) (by decide) (by decide) (by simp) (w.heap.size + 1) (by simp) ?_; intro g cap w1 hown1 hgrow1 hat1 hlt1)
 have hb1 : Below w.heap.size w w1 := pw_below_grown (below_alloc (Below.refl _ _) _) _ (by simp) hgrow1 (by intro k hk; cases hk; exact Nat.le_refl _)
 have hown1' := hown1
 simp only [Nat.zero_add, List.nil_append] at hown1'
 obtain ⟨hz, hq | ⟨g', cap', cur, hv, hgb, hgh, hnc, hcm, hcs, htk⟩⟩ := hown1'
 ·cases hq.1
 cases hv
 simp only [Nat.mul_one] at hcs htk
 have HB1 := Lib.hid hb1
 have HGH := Lib.hid hgh
 have HTK := Lib.hid htk
 clear hown1 hgrow1 hat1 hz H0' HN' hb1 hgh htk
 have HP := Lib.hid (plain_any (some ad) c l w1 (Kd.C_below HC.out HB1.out) HR.out (by have := HL.out; omega) (by have := HL.out; omega))
 have HP2 := HP.out
 rw [HL.out] at HP2
 clear HP
 have HP := Lib.hid HP2
 clear HP2
 have hgw : g < w1.heap.size := by have := hlt1; omega
 go_upto_region 7 with (first | (go_at_call 60; (with_reducible refine HP.out.mono ?_); rintro e w' ⟨rfl, rfl⟩) | (go_at_call 34; (with_reducible refine (POct.octal_Format.calls k (psum l 512) 7 field 0 _ HF.out).mono ?_); rintro e w2 ⟨vf, rfl, hR2, hb2⟩))
 have HO2 := Kd.own_of_R hR2
 rw [HFL.out] at HO2
 have hB2 : Below w.heap.size w w2 := below_next HB1.out hb2
 have hgh2 : w2.heap[g]? = some (.cells cur 5 (0, 0)) := (hb2.block g hgw).trans HGH.out
 have hvne : vf.ownBlock ≠ some g := by
  intro hq
  have := own_base HO2 _ hq
  omega
 have hsz := hb2.size
 have HO2' := Lib.hid HO2
 have HGH2 := Lib.hid hgh2
 have HBB := Aside0.mk hB2
 have HVN := Lib.hid hvne
 clear HO2 hgh2 hB2 hvne hR2 hb2 HP HGH HB1
 have hE : encs (Value.int .u8) field = field.map u8 := rfl
 obtain ⟨F8, hF8⟩ : ∃ F8 : List Value, F8 = field.map u8 ++ [.int .u8 32] := ⟨_, rfl⟩
 have hF8l : F8.length = 8 := by rw [hF8]; simp [HFL.out]
 have hF81 : ∀ v ∈ F8, v.oneCell' = true := by
  intro v hv
  rw [hF8] at hv
  rcases List.mem_append.1 hv with hv | hv
  ·obtain ⟨x, _, rfl⟩ := List.mem_map.1 hv; rfl
  ·rw [List.mem_singleton.1 hv]; rfl
 have HF8 := Lib.hid hF8
 have HF8L := Lib.hid hF8l
 have HF81 := Lib.hid hF81
 clear hF8 hF8l hF81 hE
 have hdw : ∀ o, Below w2.heap.size w2 ((w2.alloc o).drew) := fun o => (below_alloc (Below.refl _ _) _).drew
 have hdw2 : ∀ o, Below w2.heap.size w2 (World.alloc w2.drew o) := fun o => below_alloc ((Below.refl _ _).drew) _
 have HDW := Lib.hid hdw
 have HDW2 := Lib.hid hdw2
 clear hdw hdw2
 have kc1 : (156 : Int) ≤ (cap : Int) := by omega
 have kc2 : ¬ cap = 148 := by omega
 have kc3 : ¬ 148 = cap := by omega
 have kc4 : 148 ≤ cap := by omega
 have kc5 : (148 : Int) ≤ (cap : Int) := by omega
 have a1 : ((w2.alloc (.cells #[.int .u8 32] 5)).drew).ownsRow w1.heap.size 5 1 vf 7 (encs (Value.int .u8) field) := own_below HO2'.out (HDW.out _)
 have a2 : ∀ j u, ([.int .u8 32] : List Value)[j]? = some u → ((w2.alloc (.cells #[.int .u8 32] 5)).drew).cell? ((⟨w2.heap.size, 0, none⟩ : Addr).add j) = some u := World.news_of_block (w := ((w2.alloc (.cells #[.int .u8 32] 5)).drew)) (cs := #[.int .u8 32]) (heap_alloc_new w2 (.cells #[.int .u8 32] 5))
 have a3 : ∀ u ∈ ([.int .u8 32] : List Value), u.oneCell' = true := fun u hu => by rw [List.mem_singleton.1 hu]; rfl
 have a4 : w1.heap.size ≤ ((w2.alloc (.cells #[.int .u8 32] 5)).drew).heap.size := by simp; omega
 have a5 : ((w2.alloc (.cells #[.int .u8 32] 5)).drew).heap.size = w2.heap.size + 1 := by simp
 have A1 := Lib.hid a1
 have A2 := Lib.hid a2
 have A3 := Lib.hid a3
 have A4 := Lib.hid a4
 have A5 := Lib.hid a5
 have b4 : ∀ w3 : World, ((w2.alloc (.cells #[.int .u8 32] 5)).drew).grownBy w3 vf.ownBlock → Below w.heap.size w w3 ∧ w3.heap[g]? = some (.cells cur 5 (0, 0)) := fun w3 hgrow3 =>
  ⟨pw_below_grown (below_next HBB.out (HDW.out _)) _ (by simp; have := HBB.out.size; omega) hgrow3 (by intro k hk; have := own_base HO2'.out k hk; have := hgb; omega), (hgrow3.block g (by simp; omega) (fun h => HVN.out h.symm)).trans (((HDW.out _).block g (by omega)).trans HGH2.out)⟩
 have B4 := Lib.hid b4
 have CFIT := Lib.hid (show 148 + F8.length ≤ cur.toList.length by rw [HF8L.out, Array.length_toList]; omega)
 clear a1 a2 a3 a4 a5 b4
 go_region_held3 (fun w' => Below w.heap.size w w') (with_reducible first | exact hb5 | exact HBB.out.drew | exact below_next HBB.out (HDW.out _) | exact below_next HBB.out (HDW2.out _) | exact hb4) (first | (refine step_append_lies _ (by rfl) _ _ _ (by rfl) w1.heap.size 5 i0 (.int .u8 0) 1 1 Tryz.underlying32 hi hz0 hz1 hz2 (by rfl) (by decide) vf 7 (encs (Value.int .u8) field) (by rfl) A1.out ⟨w2.heap.size, 0, none⟩ 1 1 [.int .u8 32] (by rfl) (by rfl) A2.out A3.out (by decide) (by decide) (by decide) A4.out (w2.heap.size + 1) A5.out ?_; intro g2 cap2 w3 hown3 hgrow3 hat3 hlt3; have hb4 := (B4.out w3 hgrow3).1; have hg4 := (B4.out w3 hgrow3).2) | (refine step_copy_splice (by rfl) (.tmp 23) (.tmp 26) _ _ (by rfl) 5 Tryz.underlying32 (by kernel_rfl) _ _ _ _ _ _ (by rfl) (by rfl) g 148 cur.toList 5 (by simpa using hg4) F8 HF8L.out (fun _ => ⟨rfl, ⟨g2, 0, none⟩, rfl, by rw [HF8.out]; exact cells_of_own hown3⟩) CFIT.out HF81.out w.heap.size w hb4 hgb ?_; intro w5 hg5 hb5))
 go_wp2
 have hfin : (splice cur.toList 148 F8).take 512 = encs (Value.int .u8) (sealL l field) := by
  rw [splice_take HTK.out (by rw [List.length_map, HL.out]) (by rw [HF8L.out]; decide)]
  unfold splice sealL encs
  rw [HF8L.out, HF8.out]
  simp [List.map_take, List.map_drop]
 refine bodyPost_ret (v := .tuple #[.slice (some ⟨g, 0, none⟩) 512 cap, .int .i64 0]) (by simp [results, Tryz.results35, go_sem]) rfl ⟨_, rfl, ?_, hb5⟩
 have hlen : (sealL l field).length = 512 := by
  have := congrArg List.length hfin
  rw [List.length_take, length_splice _ _ _ CFIT.out, Array.length_toList] at this
  simp only [encs, List.length_map] at this
  omega
 refine Kd.R_of_own (h1 := fun _ => rfl) ?_ (fun _ _ => trivial)
 rw [hlen]
 refine ⟨by simp [encs, hlen], .inr ⟨g, cap, (splice cur.toList 148 F8).toArray, rfl, hgb, hg5.out, hnc, hcm, ?_, ?_⟩⟩
 ·have := length_splice cur.toList 148 F8 CFIT.out
  simp at this ⊢
  omega
 ·rw [← hfin]
end Go.Proofs.YtpbpfngichfgeaaGreatDoor
