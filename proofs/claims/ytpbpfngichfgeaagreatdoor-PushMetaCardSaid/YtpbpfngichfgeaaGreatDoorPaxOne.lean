/-
  pax.one, walked: the record at the beginning of a text.
-/
import Derived.Test.YtpbpfngichfgeaaGreatDoorPaxW
import Derived.Laws.Rows
import Derived.Lib.AtoiBound
import Derived.RegionTactic
import Derived.Outline
namespace Go.Proofs.YtpbpfngichfgeaaGreatDoor
set_option linter.unusedVariables false
set_option linter.unusedSimpArgs false
open Go.RowKit Go.Sort

theorem results_cell_row_tmp2 {P : Program} {fn : Func} {p u v : Tmp} {ty : TypeId} (h : fn.results = #[.cell p ty, .tmp u, .tmp v]) (tmps : Array Value) (w : World) (g : Nat) (t : TypeId) (cs : Array Value) (fr : Nat × Nat) (d : TypeDesc)
    (hp : tmps.getD p undef = .pointer (some ⟨g, 0, none⟩)) (hg : w.heap[g]? = some (.cells cs t fr))
    (hu : P.underlying ty = some d) (hd : (match d with | .struct _ | .array _ _ => true | _ => false) = true) (hi : (P.info? ty).map (·.size) = some cs.size) :
    (results fn tmps).run P w = .ok (.tuple #[.agg cs, tmps.getD u undef, tmps.getD v undef]) w := by
  have hp' : tmps[p]?.getD undef = .pointer (some ⟨g, 0, none⟩) := by simpa using hp
  simp [results, h, hp', asAddr, run_loadVar_row w g t ty cs fr d hg hu hd hi]
theorem one_rets {w wc : World} {tmps : Array Value} {V : Value} {a0 b0 : Value} (hb : Below w.heap.size w wc) (hB : Blk wc w.heap.size 66 #[a0, b0]) (v0 v1 : Value)
    (hp : tmps.getD 2 undef = .pointer (some ⟨w.heap.size, 0, none⟩)) (hV : V = .tuple #[.agg #[v0, v1], tmps.getD 3 undef, tmps.getD 4 undef]) :
    bodyPost Tryz.prog Tryz.f97 (Gives V w) .ret { tmps := tmps, defers := [] } (World.setCell (World.setCell wc ⟨w.heap.size, 0, none⟩ v0) ⟨w.heap.size, 1, none⟩ v1) := by
  have h := (hB.set_ 0 v0).set_ 1 v1
  simp at h
  exact bodyPost_ret (by rw [hV]; exact results_cell_row_tmp2 rfl _ _ _ _ _ _ _ hp h Tryz.underlying66 rfl (by kernel_rfl)) rfl ⟨rfl, (hb.setCell (p := ⟨w.heap.size, 0, none⟩) (Nat.le_refl _) v0).setCell (p := ⟨w.heap.size, 1, none⟩) (Nat.le_refl _) v1⟩

theorem one_rets_drew {w wc : World} {tmps : Array Value} {V : Value} {a0 b0 : Value} (hb : Below w.heap.size w wc) (hB : Blk wc w.heap.size 66 #[a0, b0]) (v0 v1 : Value)
    (hp : tmps.getD 2 undef = .pointer (some ⟨w.heap.size, 0, none⟩)) (hV : V = .tuple #[.agg #[v0, v1], tmps.getD 3 undef, tmps.getD 4 undef]) :
    bodyPost Tryz.prog Tryz.f97 (Gives V w) .ret { tmps := tmps, defers := [] } (World.setCell (World.setCell wc ⟨w.heap.size, 0, none⟩ v0) ⟨w.heap.size, 1, none⟩ v1).drew := by
  have h := (hB.set_ 0 v0).set_ 1 v1
  simp at h
  exact bodyPost_ret (by rw [hV]; exact results_cell_row_tmp2 rfl _ _ _ _ _ _ _ hp h.drew Tryz.underlying66 rfl (by kernel_rfl)) rfl ⟨rfl, ((hb.setCell (p := ⟨w.heap.size, 0, none⟩) (Nat.le_refl _) v0).setCell (p := ⟨w.heap.size, 1, none⟩) (Nat.le_refl _) v1).drew⟩

def oneV (k v rest : ByteArray) (e : Int) : Value := .tuple #[.agg #[.string k, .string v], .string rest, .int .i64 e]
def oneOf (s : ByteArray) : ByteArray × ByteArray × ByteArray × Int :=
  let c := Lib.cut s.data.toList [32]
  if c.2.2 = false then (⟨#[]⟩, ⟨#[]⟩, ⟨#[]⟩, 70) else if 5 < c.1.length then (⟨#[]⟩, ⟨#[]⟩, ⟨#[]⟩, 70) else
  match Lib.atoi c.1 with
  | none => (⟨#[]⟩, ⟨#[]⟩, ⟨#[]⟩, 70)
  | some n =>
    if Lib.itoa n ≠ c.1 then (⟨#[]⟩, ⟨#[]⟩, ⟨#[]⟩, 70) else if n ≤ c.1.length + 1 then (⟨#[]⟩, ⟨#[]⟩, ⟨#[]⟩, 70) else if (s.size : Int) < n then (⟨#[]⟩, ⟨#[]⟩, ⟨#[]⟩, 70) else
    if s.data.toList.getD (n - 1).toNat 0 ≠ 10 then (⟨#[]⟩, ⟨#[]⟩, ⟨#[]⟩, 70) else
    let kv := Lib.cut (s.extract (c.1.length + 1) (n.toNat - 1)).data.toList [61]
    if kv.2.2 = false then (⟨#[]⟩, ⟨#[]⟩, ⟨#[]⟩, 70) else
    if lenOf ⟨kv.1.toArray⟩ ⟨kv.2.1.toArray⟩ ≠ n then (⟨#[]⟩, ⟨#[]⟩, ⟨#[]⟩, 70) else
    if chkOf ⟨kv.1.toArray⟩ ⟨kv.2.1.toArray⟩ ≠ 0 then (⟨#[]⟩, ⟨#[]⟩, ⟨#[]⟩, chkOf ⟨kv.1.toArray⟩ ⟨kv.2.1.toArray⟩) else
    (⟨kv.1.toArray⟩, ⟨kv.2.1.toArray⟩, s.extract n.toNat s.size, 0)
def oneW (s : ByteArray) : Value := oneV (oneOf s).1 (oneOf s).2.1 (oneOf s).2.2.1 (oneOf s).2.2.2

theorem str_index (P : Program) (s : ByteArray) (i : Int) (h0 : 0 ≤ i) (h1 : i < s.size) (t : TypeId) (ht : P.underlying t = some .string) (wx : World) :
    (Instr.index t (.string s) (.int .i64 i)).run P wx = .ok (.int .u8 ((s.data.toList.getD i.toNat 0).toNat : Nat)) wx := by
  rw [run_index_string wx t s .i64 _ ht, dif_pos ⟨h0, by omega⟩, Lib.getD_at s _ (by omega)]
theorem atoi_bounds {s : ByteArray} {n : Int} (hs : s.size ≤ 5) (h : Lib.atoi s.data.toList = some n) : -9223372036854775808 ≤ n ∧ n ≤ 9223372036854775807 := by
  have := Lib.atoi_bound h (by rw [← Lib.size_eq]; omega)
  omega
theorem cut_le (s sep : List UInt8) : (Lib.cut s sep).1.length ≤ s.length ∧ (Lib.cut s sep).2.1.length ≤ s.length := by
  unfold Lib.cut
  split
  · simp only [List.length_take, List.length_drop]; omega
  · simp

set_option maxRecDepth 100000 in
set_option maxHeartbeats 2000000 in
theorem one_any (hC : CAny) (s : ByteArray) (hs : s.size < 4294967281) (w : World) (he : EnvE w) :
    Calls Tryz.prog 97 #[.string s] w (Gives (oneW s) w) := by
  obtain ⟨V, hV⟩ : ∃ V, oneW s = V := ⟨_, rfl⟩
  rw [hV]
  obtain ⟨c1, c2, q, hc⟩ : ∃ c1 c2 q, Lib.cut s.data.toList [32] = (c1, c2, q) := ⟨_, _, _, rfl⟩
  have hle := cut_le s.data.toList [32]
  obtain ⟨hd, hhd⟩ : ∃ hd : ByteArray, hd = ⟨c1.toArray⟩ := ⟨_, rfl⟩
  have hdl : hd.data.toList = c1 := by rw [hhd]
  have hds : c1.length = hd.size := by rw [← hdl]; exact Lib.size_eq hd |>.symm
  have HC := Lib.hid (fun w he => cut_any s ⟨#[32]⟩ hs w he ⟨c1.toArray⟩ ⟨c2.toArray⟩ q hc)
  have HCA : Hid CAny := hC
  have HE := Lib.hid he
  have HD := Lib.hid hdl
  rw [← hhd] at HC
  have b0 : Blk (w.alloc (.cells #[.string ⟨#[]⟩, .string ⟨#[]⟩] 66)) w.heap.size 66 #[.string ⟨#[]⟩, .string ⟨#[]⟩] := Blk.new _ _ _
  have lb0 : Below w.heap.size w (w.alloc (.cells #[.string ⟨#[]⟩, .string ⟨#[]⟩] 66)) := (Below.refl _ _).alloc (Nat.le_refl _) _
  have HB0 := Lib.hid b0
  have HLB0 := Lib.hid lb0
  have hs0 : s.data.toList.length = s.size := (Lib.size_eq s).symm
  rw [hc] at hle
  have hle1 : hd.size ≤ s.size := by rw [← hds, ← hs0]; exact hle.1
  clear hC he b0 lb0 hle hhd hdl
  cases q with
  | false =>
    have HV : Hid (oneV ⟨#[]⟩ ⟨#[]⟩ ⟨#[]⟩ 70 = V) := by show _ = V; rw [← hV]; unfold oneW; have h1 : oneOf s = (⟨#[]⟩, ⟨#[]⟩, ⟨#[]⟩, 70) := (by unfold oneOf; simp only [hc, if_true]); rw [h1]
    clear hV hc hds hs0
    go_enter Tryz.func97, Tryz.ntmps97
    go_wp2_with fail
    refine (HC.out _ (HE.out.env.below HLB0.out)).mono ?_
    rintro e w1 ⟨rfl, hb1⟩
    have b1 := HB0.out.below hb1 HB0.out.lt
    have B1 := below_next HLB0.out hb1
    have x0 := b1.cell 0; have x1 := b1.cell 1; have y0 := b1.frozen 0; have y1 := b1.frozen 1
    go_wp2_with fail
    try simp only [Exit.inBlock, Exit.then]
    exact one_rets B1 b1 _ _ rfl HV.out.symm
  | true =>
    by_cases hn5 : 5 < hd.size
    · have HV : Hid (oneV ⟨#[]⟩ ⟨#[]⟩ ⟨#[]⟩ 70 = V) := by show _ = V; rw [← hV]; unfold oneW; have h1 : oneOf s = (⟨#[]⟩, ⟨#[]⟩, ⟨#[]⟩, 70) := (by unfold oneOf; simp only [hc, hds]; rw [if_neg (by decide)]; rw [if_pos hn5]); rw [h1]
      clear hV hc hds hs0
      go_enter Tryz.func97, Tryz.ntmps97
      go_wp2_with fail
      refine (HC.out _ (HE.out.env.below HLB0.out)).mono ?_
      rintro e w1 ⟨rfl, hb1⟩
      have b1 := HB0.out.below hb1 HB0.out.lt
      have B1 := below_next HLB0.out hb1
      clear hb1
      have x0 := b1.cell 0; have x1 := b1.cell 1; have y0 := b1.frozen 0; have y1 := b1.frozen 1
      go_wp2_with fail
      try simp only [Exit.inBlock, Exit.then]
      exact one_rets B1 b1 _ _ rfl HV.out.symm
    have HN5 : Hid (¬ 5 < hd.size) := hn5
    have hn5i : hd.size ≤ 5 := by omega
    rcases han : Lib.atoi hd.data.toList with _ | n
    · have han1 : Lib.atoi c1 = none := by rw [← HD.out]; exact han
      have HV : Hid (oneV ⟨#[]⟩ ⟨#[]⟩ ⟨#[]⟩ 70 = V) := by show _ = V; rw [← hV]; unfold oneW; have h1 : oneOf s = (⟨#[]⟩, ⟨#[]⟩, ⟨#[]⟩, 70) := (by unfold oneOf; simp only [hc, hds]; rw [if_neg (by decide)]; rw [if_neg hn5]; simp only [han1]); rw [h1]
      have HAN := Lib.hid han
      clear hV hc hds hs0 han han1 hn5
      go_enter Tryz.func97, Tryz.ntmps97
      go_wp2_with fail
      refine (HC.out _ (HE.out.env.below HLB0.out)).mono ?_
      rintro e w1 ⟨rfl, hb1⟩
      have b1 := HB0.out.below hb1 HB0.out.lt
      have B1 := below_next HLB0.out hb1
      clear hb1
      go_wp2_with fail
      refine (atoi_bad hd (by omega) HAN.out _ (HE.out.below B1)).mono ?_
      rintro e w2 ⟨n, t, x, rfl, hb2⟩
      have b2 := b1.below hb2 b1.lt
      have B2 := below_next B1 hb2
      clear b1 B1 hb2
      have x0 := b2.cell 0; have x1 := b2.cell 1; have y0 := b2.frozen 0; have y1 := b2.frozen 1
      go_wp2_with fail
      try simp only [Exit.inBlock, Exit.then]
      exact one_rets B2 b2 _ _ rfl HV.out.symm
    have han1 : Lib.atoi c1 = some n := by rw [← HD.out]; exact han
    have HAN := Lib.hid han
    have nb := atoi_bounds (by omega) han
    clear han hn5
    by_cases hit : itoaS n = hd
    rotate_left
    · have hit1 : Lib.itoa n ≠ c1 := by intro h; apply hit; rw [itoaS, h, ← HD.out]
      have HV : Hid (oneV ⟨#[]⟩ ⟨#[]⟩ ⟨#[]⟩ 70 = V) := by show _ = V; rw [← hV]; unfold oneW; have h1 : oneOf s = (⟨#[]⟩, ⟨#[]⟩, ⟨#[]⟩, 70) := (by unfold oneOf; simp only [hc, hds]; rw [if_neg (by decide)]; rw [if_neg (show ¬ 5 < hd.size by have := HN5.out; omega)]; simp only [han1]; rw [if_pos hit1]); rw [h1]
      have hq := str_false hit
      generalize hz : itoaS n = z at hq
      have HZ := Lib.hid hz
      clear hV hc hds hs0 han1 hit hit1 hz
      go_enter Tryz.func97, Tryz.ntmps97
      go_wp2_with fail
      refine (HC.out _ (HE.out.env.below HLB0.out)).mono ?_
      rintro e w1 ⟨rfl, hb1⟩
      have b1 := HB0.out.below hb1 HB0.out.lt
      have B1 := below_next HLB0.out hb1
      clear hb1
      go_wp2_with fail
      refine (atoi_ok hd (by omega) n HAN.out _).mono ?_
      rintro e w2 ⟨rfl, hb2⟩
      have b2 := b1.below hb2 b1.lt
      have B2 := below_next B1 hb2
      clear b1 B1 hb2
      go_wp2_with fail
      refine (itoaS_any n (by omega) (by omega) _ (HE.out.env.below B2) z HZ.out).mono ?_
      rintro e w3 ⟨rfl, hb3⟩
      have b3 := b2.below hb3 b2.lt
      have B3 := below_next B2 hb3
      clear b2 B2 hb3
      have x0 := b3.cell 0; have x1 := b3.cell 1; have y0 := b3.frozen 0; have y1 := b3.frozen 1
      go_wp2_with fail
      try simp only [Exit.inBlock, Exit.then]
      exact one_rets B3 b3 _ _ rfl HV.out.symm
    have hit1 : Lib.itoa n = c1 := by have := congrArg (·.data.toList) hit; simp only [itoaS] at this; rw [← HD.out]; exact this
    have HIT := Lib.hid hit
    clear hit
    have hself := str_self hd
    by_cases hn1 : n ≤ hd.size + 1
    · have HV : Hid (oneV ⟨#[]⟩ ⟨#[]⟩ ⟨#[]⟩ 70 = V) := by show _ = V; rw [← hV]; unfold oneW; have h1 : oneOf s = (⟨#[]⟩, ⟨#[]⟩, ⟨#[]⟩, 70) := (by unfold oneOf; simp only [hc, hds]; rw [if_neg (by decide)]; rw [if_neg (show ¬ 5 < hd.size by have := HN5.out; omega)]; simp only [han1]; rw [if_neg (fun h => h hit1)]; rw [if_pos hn1]); rw [h1]
      clear hV hc hds hs0 han1 hit1
      go_enter Tryz.func97, Tryz.ntmps97
      go_wp2_with fail
      refine (HC.out _ (HE.out.env.below HLB0.out)).mono ?_
      rintro e w1 ⟨rfl, hb1⟩
      have b1 := HB0.out.below hb1 HB0.out.lt
      have B1 := below_next HLB0.out hb1
      clear hb1
      go_wp2_with fail
      refine (atoi_ok hd (by omega) n HAN.out _).mono ?_
      rintro e w2 ⟨rfl, hb2⟩
      have b2 := b1.below hb2 b1.lt
      have B2 := below_next B1 hb2
      clear b1 B1 hb2
      go_wp2_with fail
      refine (itoaS_any n (by omega) (by omega) _ (HE.out.env.below B2) hd HIT.out).mono ?_
      rintro e w3 ⟨rfl, hb3⟩
      have b3 := b2.below hb3 b2.lt
      have B3 := below_next B2 hb3
      clear b2 B2 hb3
      have x0 := b3.cell 0; have x1 := b3.cell 1; have y0 := b3.frozen 0; have y1 := b3.frozen 1
      go_wp2_with fail
      try simp only [Exit.inBlock, Exit.then]
      exact one_rets B3 b3 _ _ rfl HV.out.symm
    by_cases hn2 : (s.size : Int) < n
    · have HV : Hid (oneV ⟨#[]⟩ ⟨#[]⟩ ⟨#[]⟩ 70 = V) := by show _ = V; rw [← hV]; unfold oneW; have h1 : oneOf s = (⟨#[]⟩, ⟨#[]⟩, ⟨#[]⟩, 70) := (by unfold oneOf; simp only [hc, hds]; rw [if_neg (by decide)]; rw [if_neg (show ¬ 5 < hd.size by have := HN5.out; omega)]; simp only [han1]; rw [if_neg (fun h => h hit1)]; rw [if_neg hn1]; rw [if_pos hn2]); rw [h1]
      clear hV hc hds hs0 han1 hit1
      go_enter Tryz.func97, Tryz.ntmps97
      go_wp2_with fail
      refine (HC.out _ (HE.out.env.below HLB0.out)).mono ?_
      rintro e w1 ⟨rfl, hb1⟩
      have b1 := HB0.out.below hb1 HB0.out.lt
      have B1 := below_next HLB0.out hb1
      clear hb1
      go_wp2_with fail
      refine (atoi_ok hd (by omega) n HAN.out _).mono ?_
      rintro e w2 ⟨rfl, hb2⟩
      have b2 := b1.below hb2 b1.lt
      have B2 := below_next B1 hb2
      clear b1 B1 hb2
      go_wp2_with fail
      refine (itoaS_any n (by omega) (by omega) _ (HE.out.env.below B2) hd HIT.out).mono ?_
      rintro e w3 ⟨rfl, hb3⟩
      have b3 := b2.below hb3 b2.lt
      have B3 := below_next B2 hb3
      clear b2 B2 hb3
      have x0 := b3.cell 0; have x1 := b3.cell 1; have y0 := b3.frozen 0; have y1 := b3.frozen 1
      go_wp2_with fail
      try simp only [Exit.inBlock, Exit.then]
      exact one_rets B3 b3 _ _ rfl HV.out.symm
    have hix := fun wx => str_index Tryz.prog s (n - 1) (by omega) (by omega) 9 Tryz.underlying9 wx
    obtain ⟨b, hb⟩ : ∃ b : UInt8, s.data.toList.getD (n - 1).toNat 0 = b := ⟨_, rfl⟩
    rw [hb] at hix
    by_cases hn3 : b = 10
    rotate_left
    · have HV : Hid (oneV ⟨#[]⟩ ⟨#[]⟩ ⟨#[]⟩ 70 = V) := by show _ = V; rw [← hV]; unfold oneW; have h1 : oneOf s = (⟨#[]⟩, ⟨#[]⟩, ⟨#[]⟩, 70) := (by unfold oneOf; simp only [hc, hds]; rw [if_neg (by decide)]; rw [if_neg (show ¬ 5 < hd.size by have := HN5.out; omega)]; simp only [han1]; rw [if_neg (fun h => h hit1)]; rw [if_neg hn1]; rw [if_neg hn2]; rw [if_pos (by rw [hb]; exact hn3)]); rw [h1]
      have hbq : ((b.toNat : Int) != 10) = true := by rw [bne_iff_ne]; intro h; apply hn3; exact UInt8.toNat_inj.1 (show b.toNat = 10 by exact_mod_cast h)
      clear hV hc hds hs0 han1 hit1 hb hn3
      go_enter Tryz.func97, Tryz.ntmps97
      go_wp2_with fail
      refine (HC.out _ (HE.out.env.below HLB0.out)).mono ?_
      rintro e w1 ⟨rfl, hb1⟩
      have b1 := HB0.out.below hb1 HB0.out.lt
      have B1 := below_next HLB0.out hb1
      clear hb1
      go_wp2_with fail
      refine (atoi_ok hd (by omega) n HAN.out _).mono ?_
      rintro e w2 ⟨rfl, hb2⟩
      have b2 := b1.below hb2 b1.lt
      have B2 := below_next B1 hb2
      clear b1 B1 hb2
      go_wp2_with fail
      refine (itoaS_any n (by omega) (by omega) _ (HE.out.env.below B2) hd HIT.out).mono ?_
      rintro e w3 ⟨rfl, hb3⟩
      have b3 := b2.below hb3 b2.lt
      have B3 := below_next B2 hb3
      clear b2 B2 hb3
      have x0 := b3.cell 0; have x1 := b3.cell 1; have y0 := b3.frozen 0; have y1 := b3.frozen 1
      go_wp2_with fail
      try simp only [Exit.inBlock, Exit.then]
      exact one_rets B3 b3 _ _ rfl HV.out.symm
    subst hn3
    have hsl : ∀ wx, (Instr.slice 9 (.string s) (some (.int .i64 ((hd.size : Int) + 1))) (some (.int .i64 (n - 1))) none).run Tryz.prog wx = .ok (.string (s.extract (hd.size + 1) (n.toNat - 1))) wx := fun wx => by
      have e1 : ((hd.size : Int) + 1).toNat = hd.size + 1 := by omega
      have h := run_slice_string (P := Tryz.prog) (w := wx) 9 s .i64 .i64 ((hd.size : Int) + 1) (n - 1) Tryz.underlying9 (by omega) (by omega) (by omega)
      rw [e1, show (n - 1).toNat = n.toNat - 1 by omega] at h
      exact h
    obtain ⟨ks, vs, q2, hc2⟩ : ∃ ks vs q2, Lib.cut (s.extract (hd.size + 1) (n.toNat - 1)).data.toList [61] = (ks, vs, q2) := ⟨_, _, _, rfl⟩
    obtain ⟨k2, hk2⟩ : ∃ k2 : ByteArray, k2 = ⟨ks.toArray⟩ := ⟨_, rfl⟩
    obtain ⟨v2, hv2⟩ : ∃ v2 : ByteArray, v2 = ⟨vs.toArray⟩ := ⟨_, rfl⟩
    have hxs : (s.extract (hd.size + 1) (n.toNat - 1)).size ≤ s.size := by simp [ByteArray.size_extract]; omega
    have HC2 := Lib.hid (fun w he => cut_any (s.extract (hd.size + 1) (n.toNat - 1)) ⟨#[61]⟩ (by omega) w he k2 v2 q2 (by rw [hk2, hv2]; exact hc2))
    have hkl := cut_le (s.extract (hd.size + 1) (n.toNat - 1)).data.toList [61]
    rw [hc2, ← Lib.size_eq] at hkl
    have hks : k2.size ≤ s.size := by rw [Lib.size_eq, hk2]; exact Nat.le_trans hkl.1 hxs
    have hvs : v2.size ≤ s.size := by rw [Lib.size_eq, hv2]; exact Nat.le_trans hkl.2 hxs
    clear hkl hxs
    cases q2 with
    | false =>
      have HV : Hid (oneV ⟨#[]⟩ ⟨#[]⟩ ⟨#[]⟩ 70 = V) := by show _ = V; rw [← hV]; unfold oneW; have h1 : oneOf s = (⟨#[]⟩, ⟨#[]⟩, ⟨#[]⟩, 70) := (by unfold oneOf; simp only [hc, hds]; rw [if_neg (by decide)]; rw [if_neg (show ¬ 5 < hd.size by have := HN5.out; omega)]; simp only [han1]; rw [if_neg (fun h => h hit1)]; rw [if_neg hn1]; rw [if_neg hn2]; rw [if_neg (by rw [hb]; exact fun h => h rfl)]; simp only [hc2, if_true]); rw [h1]
      clear hV hc hds hs0 han1 hit1 hb hc2 hk2 hv2
      go_enter Tryz.func97, Tryz.ntmps97
      go_wp2_with fail
      refine (HC.out _ (HE.out.env.below HLB0.out)).mono ?_
      rintro e w1 ⟨rfl, hb1⟩
      have b1 := HB0.out.below hb1 HB0.out.lt
      have B1 := below_next HLB0.out hb1
      clear hb1
      go_wp2_with fail
      refine (atoi_ok hd (by omega) n HAN.out _).mono ?_
      rintro e w2 ⟨rfl, hb2⟩
      have b2 := b1.below hb2 b1.lt
      have B2 := below_next B1 hb2
      clear b1 B1 hb2
      go_wp2_with fail
      refine (itoaS_any n (by omega) (by omega) _ (HE.out.env.below B2) hd HIT.out).mono ?_
      rintro e w3 ⟨rfl, hb3⟩
      have b3 := b2.below hb3 b2.lt
      have B3 := below_next B2 hb3
      clear b2 B2 hb3
      go_wp2_with fail
      refine (HC2.out _ (HE.out.env.below B3)).mono ?_
      rintro e w4 ⟨rfl, hb4⟩
      have b4 := b3.below hb4 b3.lt
      have B4 := below_next B3 hb4
      clear b3 B3 hb4
      have d4 := b4.alloc (.cells #[.string k2, .string v2] 66)
      have D4 := B4.alloc B4.size (.cells #[.string k2, .string v2] 66)
      have x0 := d4.cell 0; have x1 := d4.cell 1; have y0 := d4.frozen 0; have y1 := d4.frozen 1
      go_wp2_with fail
      try simp only [Exit.inBlock, Exit.then]
      exact one_rets D4 d4 _ _ rfl HV.out.symm
    | true =>
      obtain ⟨L, hL⟩ : ∃ L, lenOf k2 v2 = L := ⟨_, rfl⟩
      have HL := Lib.hid hL
      by_cases hln : L = n
      rotate_left
      · have HV : Hid (oneV ⟨#[]⟩ ⟨#[]⟩ ⟨#[]⟩ 70 = V) := by show _ = V; rw [← hV]; unfold oneW; have h1 : oneOf s = (⟨#[]⟩, ⟨#[]⟩, ⟨#[]⟩, 70) := (by unfold oneOf; simp only [hc, hds]; rw [if_neg (by decide)]; rw [if_neg (show ¬ 5 < hd.size by have := HN5.out; omega)]; simp only [han1]; rw [if_neg (fun h => h hit1)]; rw [if_neg hn1]; rw [if_neg hn2]; rw [if_neg (by rw [hb]; exact fun h => h rfl)]; simp only [hc2]; rw [← hk2, ← hv2]; rw [if_neg (by decide)]; rw [if_pos (fun h => hln (hL.symm.trans h))]); rw [h1]
        have hlq : (L == n) = false := by simpa using hln
        clear hV hc hds hs0 han1 hit1 hb hc2 hk2 hv2 hL hln
        go_enter Tryz.func97, Tryz.ntmps97
        go_wp2_with fail
        refine (HC.out _ (HE.out.env.below HLB0.out)).mono ?_
        rintro e w1 ⟨rfl, hb1⟩
        have b1 := HB0.out.below hb1 HB0.out.lt
        have B1 := below_next HLB0.out hb1
        clear hb1
        go_wp2_with fail
        refine (atoi_ok hd (by omega) n HAN.out _).mono ?_
        rintro e w2 ⟨rfl, hb2⟩
        have b2 := b1.below hb2 b1.lt
        have B2 := below_next B1 hb2
        clear b1 B1 hb2
        go_wp2_with fail
        refine (itoaS_any n (by omega) (by omega) _ (HE.out.env.below B2) hd HIT.out).mono ?_
        rintro e w3 ⟨rfl, hb3⟩
        have b3 := b2.below hb3 b2.lt
        have B3 := below_next B2 hb3
        clear b2 B2 hb3
        go_wp2_with fail
        refine (HC2.out _ (HE.out.env.below B3)).mono ?_
        rintro e w4 ⟨rfl, hb4⟩
        have b4 := b3.below hb4 b3.lt
        have B4 := below_next B3 hb4
        clear b3 B3 hb4
        go_wp2_with fail
        refine (length_any k2 v2 (by omega) (by omega) _ ((HE.out.env.below B4).alloc _)).mono ?_
        rw [HL.out]
        rintro e w5 ⟨rfl, hb5⟩
        have b5 := (b4.alloc (.cells #[.string k2, .string v2] 66)).below hb5 (b4.alloc _).lt
        have r5 : Blk w5 w4.heap.size 66 #[.string k2, .string v2] := (Blk.new w4 66 #[.string k2, .string v2]).below hb5 (by simp)
        have B5 := below_next (B4.alloc B4.size (.cells #[.string k2, .string v2] 66)) hb5
        generalize w4.heap.size = g4 at r5 ⊢
        clear b4 B4 hb5
        have x0 := b5.cell 0; have x1 := b5.cell 1; have y0 := b5.frozen 0; have y1 := b5.frozen 1
        go_wp2_with fail
        try simp only [Exit.inBlock, Exit.then]
        exact one_rets B5 b5 _ _ rfl HV.out.symm
      obtain rfl : n = L := hln.symm
      obtain ⟨E, hE⟩ : ∃ E, chkOf k2 v2 = E := ⟨_, rfl⟩
      have HK := Lib.hid hE
      by_cases hE0 : E = 0
      rotate_left
      · have HV : Hid (oneV ⟨#[]⟩ ⟨#[]⟩ ⟨#[]⟩ E = V) := by show _ = V; rw [← hV]; unfold oneW; have h1 : oneOf s = (⟨#[]⟩, ⟨#[]⟩, ⟨#[]⟩, E) := (by unfold oneOf; simp only [hc, hds]; rw [if_neg (by decide)]; rw [if_neg (show ¬ 5 < hd.size by have := HN5.out; omega)]; simp only [han1]; rw [if_neg (fun h => h hit1)]; rw [if_neg hn1]; rw [if_neg hn2]; rw [if_neg (by rw [hb]; exact fun h => h rfl)]; simp only [hc2]; rw [← hk2, ← hv2]; rw [if_neg (by decide)]; rw [if_neg (fun h => h hL)]; rw [if_pos (fun h => hE0 (hE.symm.trans h)), hE]); rw [h1]
        have hlq : (E == 0) = false := by simpa using hE0
        clear hV hc hds hs0 han1 hit1 hb hc2 hk2 hv2 hL hE hE0
        go_enter Tryz.func97, Tryz.ntmps97
        go_wp2_with fail
        refine (HC.out _ (HE.out.env.below HLB0.out)).mono ?_
        rintro e w1 ⟨rfl, hb1⟩
        have b1 := HB0.out.below hb1 HB0.out.lt
        have B1 := below_next HLB0.out hb1
        clear hb1
        go_wp2_with fail
        refine (atoi_ok hd (by omega) n HAN.out _).mono ?_
        rintro e w2 ⟨rfl, hb2⟩
        have b2 := b1.below hb2 b1.lt
        have B2 := below_next B1 hb2
        clear b1 B1 hb2
        go_wp2_with fail
        refine (itoaS_any n (by omega) (by omega) _ (HE.out.env.below B2) hd HIT.out).mono ?_
        rintro e w3 ⟨rfl, hb3⟩
        have b3 := b2.below hb3 b2.lt
        have B3 := below_next B2 hb3
        clear b2 B2 hb3
        go_wp2_with fail
        refine (HC2.out _ (HE.out.env.below B3)).mono ?_
        rintro e w4 ⟨rfl, hb4⟩
        have b4 := b3.below hb4 b3.lt
        have B4 := below_next B3 hb4
        clear b3 B3 hb4
        go_wp2_with fail
        refine (length_any k2 v2 (by omega) (by omega) _ ((HE.out.env.below B4).alloc _)).mono ?_
        rw [HL.out]
        rintro e w5 ⟨rfl, hb5⟩
        have b5 := (b4.alloc (.cells #[.string k2, .string v2] 66)).below hb5 (b4.alloc _).lt
        have r5 : Blk w5 w4.heap.size 66 #[.string k2, .string v2] := (Blk.new w4 66 #[.string k2, .string v2]).below hb5 (by simp)
        have B5 := below_next (B4.alloc B4.size (.cells #[.string k2, .string v2] 66)) hb5
        generalize w4.heap.size = g4 at r5 ⊢
        clear b4 B4 hb5
        have r0 := r5.cell 0; have r1 := r5.cell 1
        go_wp2_with fail
        refine (check_any HCA.out k2 v2 (by omega) (by omega) _).mono ?_
        rw [HK.out]
        rintro e w6 ⟨rfl, hb6⟩
        have b6 := b5.below hb6 b5.lt
        have r6 := r5.below hb6 r5.lt
        have B6 := below_next B5 hb6
        clear b5 r5 B5 hb6 r0 r1
        have x0 := b6.cell 0; have x1 := b6.cell 1; have y0 := b6.frozen 0; have y1 := b6.frozen 1
        go_wp2_with fail
        try simp only [Exit.inBlock, Exit.then]
        exact one_rets B6 b6 _ _ rfl HV.out.symm
      · subst hE0
        have HV : Hid (oneV k2 v2 (s.extract n.toNat s.size) 0 = V) := by show _ = V; rw [← hV]; unfold oneW; have h1 : oneOf s = (k2, v2, s.extract n.toNat s.size, 0) := (by unfold oneOf; simp only [hc, hds]; rw [if_neg (by decide)]; rw [if_neg (show ¬ 5 < hd.size by have := HN5.out; omega)]; simp only [han1]; rw [if_neg (fun h => h hit1)]; rw [if_neg hn1]; rw [if_neg hn2]; rw [if_neg (by rw [hb]; exact fun h => h rfl)]; simp only [hc2]; rw [← hk2, ← hv2]; rw [if_neg (by decide)]; rw [if_neg (fun h => h hL)]; rw [if_neg (fun h => h hE)]); rw [h1]
        clear hV hc hds hs0 han1 hit1 hb hc2 hk2 hv2 hL hE
        go_enter Tryz.func97, Tryz.ntmps97
        go_wp2_with fail
        refine (HC.out _ (HE.out.env.below HLB0.out)).mono ?_
        rintro e w1 ⟨rfl, hb1⟩
        have b1 := HB0.out.below hb1 HB0.out.lt
        have B1 := below_next HLB0.out hb1
        clear hb1
        go_wp2_with fail
        refine (atoi_ok hd (by omega) n HAN.out _).mono ?_
        rintro e w2 ⟨rfl, hb2⟩
        have b2 := b1.below hb2 b1.lt
        have B2 := below_next B1 hb2
        clear b1 B1 hb2
        go_wp2_with fail
        refine (itoaS_any n (by omega) (by omega) _ (HE.out.env.below B2) hd HIT.out).mono ?_
        rintro e w3 ⟨rfl, hb3⟩
        have b3 := b2.below hb3 b2.lt
        have B3 := below_next B2 hb3
        clear b2 B2 hb3
        go_wp2_with fail
        refine (HC2.out _ (HE.out.env.below B3)).mono ?_
        rintro e w4 ⟨rfl, hb4⟩
        have b4 := b3.below hb4 b3.lt
        have B4 := below_next B3 hb4
        clear b3 B3 hb4
        go_wp2_with fail
        refine (length_any k2 v2 (by omega) (by omega) _ ((HE.out.env.below B4).alloc _)).mono ?_
        rw [HL.out]
        rintro e w5 ⟨rfl, hb5⟩
        have b5 := (b4.alloc (.cells #[.string k2, .string v2] 66)).below hb5 (b4.alloc _).lt
        have r5 : Blk w5 w4.heap.size 66 #[.string k2, .string v2] := (Blk.new w4 66 #[.string k2, .string v2]).below hb5 (by simp)
        have B5 := below_next (B4.alloc B4.size (.cells #[.string k2, .string v2] 66)) hb5
        generalize w4.heap.size = g4 at r5 ⊢
        clear b4 B4 hb5
        have r0 := r5.cell 0; have r1 := r5.cell 1
        go_wp2_with fail
        refine (check_any HCA.out k2 v2 (by omega) (by omega) _).mono ?_
        rw [HK.out]
        rintro e w6 ⟨rfl, hb6⟩
        have b6 := b5.below hb6 b5.lt
        have r6 := r5.below hb6 r5.lt
        have B6 := below_next B5 hb6
        clear b5 r5 B5 hb6 r0 r1
        have x0 := b6.cell 0; have x1 := b6.cell 1; have y0 := b6.frozen 0; have y1 := b6.frozen 1
        have r0 := r6.cell 0; have r1 := r6.cell 1
        go_wp2_with fail
        go_region
        go_wp2_with fail
        try simp only [Exit.inBlock, Exit.then]
        exact one_rets_drew B6 b6 _ _ rfl HV.out.symm
end Go.Proofs.YtpbpfngichfgeaaGreatDoor
