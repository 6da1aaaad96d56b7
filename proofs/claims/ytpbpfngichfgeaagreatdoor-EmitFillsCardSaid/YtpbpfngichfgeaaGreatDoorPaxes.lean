/-
  Several texts in one: YtpbpfngichfgeaaGreatDoorPaxW, YtpbpfngichfgeaaGreatDoorPaxOne, YtpbpfngichfgeaaGreatDoorPaxEnc, YtpbpfngichfgeaaGreatDoorPaxP0, YtpbpfngichfgeaaGreatDoorPaxPA, YtpbpfngichfgeaaGreatDoorCAny.
-/
import Derived.Test.YtpbpfngichfgeaaGreatDoorEnv
import Derived.Test.YtpbpfngichfgeaaGreatDoorPaxGet
import Derived.Laws.Rows
import Derived.Lib.AtoiBound
import Derived.RegionTactic
import Derived.Outline
import Derived.Test.YtpbpfngichfgeaaGreatDoorBuild
import Derived.Deep.RegionHeld3
import Derived.Deep.LoopGhost
import Derived.Lib.ConvBytes
import Derived.Test.YtpbpfngichfgeaaGreatDoorUtil
import Derived.Lib.ItoaLen
import Derived.Lib.Atoi
import Derived.Lib.IndexBytes
import Derived.Laws.Runes
import Derived.Laws.RangeAny
import Derived.Lib.DecodeN
import Derived.Lib.SpaceUEq
import Derived.Lib.QuoteLoop
import Derived.Deep.QuietTactic
import Derived.BigQuiet
import Derived.Lib.OthersKept
namespace Go.Proofs.YtpbpfngichfgeaaGreatDoor
set_option linter.unusedVariables false
set_option linter.unusedSimpArgs false
open Go.RowKit Go.Sort

def itoaS (n : Int) : ByteArray := ⟨(Lib.itoa n).toArray⟩
theorem itoaS_size (n : Int) : (itoaS n).size = (Lib.itoa n).length := by simp [itoaS, ByteArray.size]
theorem itoaS_le (n : Int) (h0 : -9223372036854775808 ≤ n) (h1 : n ≤ 9223372036854775807) : (itoaS n).size ≤ 21 := by rw [itoaS_size]; exact Lib.itoa_length_le n h0 h1
def lenOf (k v : ByteArray) : Int :=
  let n : Int := k.size + v.size + 3
  let d : Int := (itoaS n).size
  if d < (itoaS (n + d)).size then n + (d + 1) else n + d

theorem itoaS_any (n : Int) (h0 : -9223372036854775808 ≤ n) (h1 : n ≤ 9223372036854775807) (w : World) (he : Env w) (z : ByteArray) (hz : itoaS n = z) :
    Calls Tryz.prog 48 #[.int .i64 n] w (Gives (.string z) w) := by subst hz; exact itoa_any n h0 h1 w he

set_option maxHeartbeats 2000000 in
theorem length_any (k v : ByteArray) (hk : k.size ≤ 281474976710656) (hv : v.size ≤ 281474976710656) (w : World) (he : Env w) :
    Calls Tryz.prog 49 #[.agg #[.string k, .string v]] w (Gives (.int .i64 (lenOf k v)) w) := by
  obtain ⟨n, hn⟩ : ∃ n : Int, (k.size : Int) + v.size + 3 = n := ⟨_, rfl⟩
  obtain ⟨z, hz⟩ : ∃ z, itoaS n = z := ⟨_, rfl⟩
  have hzs : z.size ≤ 21 := by rw [← hz]; exact itoaS_le n (by omega) (by omega)
  obtain ⟨y, hy⟩ : ∃ y, itoaS (n + z.size) = y := ⟨_, rfl⟩
  have hys : y.size ≤ 21 := by rw [← hy]; exact itoaS_le _ (by omega) (by omega)
  have hl : lenOf k v = if (z.size : Int) < y.size then n + (z.size + 1) else n + z.size := by simp only [lenOf, hn, hz, hy]
  have HL := Lib.hid hl
  have HE := Lib.hid he
  have b1 : Hid (n + z.size ≤ 9223372036854775807 ∧ -9223372036854775808 ≤ n + z.size) := by show _ ∧ _; omega
  have HZ := Lib.hid hz
  have HY := Lib.hid hy
  have hn0 : n ≤ 562949953421315 := by omega
  have hn1 : 0 ≤ n := by omega
  have HN := Lib.hid hn
  clear hz hy hl he hn
  by_cases c : (z.size : Int) < y.size
  · have HF : Hid (Ending.returned (.int .i64 (n + (z.size + 1))) = .returned (.int .i64 (lenOf k v))) := by show Ending.returned _ = _; rw [HL.out, if_pos c]
    have hc : decide (z.size < y.size) = true := by simpa using c
    go_enter Tryz.func49, Tryz.ntmps49
    go_wp2_with fail
    rw [HN.out]
    refine (itoaS_any n (by omega) (by omega) _ (HE.out.below (by (repeat' (first | assumption | exact Below.refl _ _ | refine Below.alloc ?_ (Nat.le_refl _) _)))) z HZ.out).mono ?_
    rintro e w1 ⟨rfl, hb1⟩
    go_wp2_with fail
    refine (itoaS_any (n + z.size) (by omega) (by omega) _ ((HE.out.below ((Below.refl _ _).alloc (Nat.le_refl _) _)).below hb1) y HY.out).mono ?_
    rintro e w2 ⟨rfl, hb2⟩
    go_wp2_with fail
    go_ret
    exact ⟨HF.out, below_out (below_next hb1 hb2)⟩
  · have HF : Hid (Ending.returned (.int .i64 (n + z.size)) = .returned (.int .i64 (lenOf k v))) := by show Ending.returned _ = _; rw [HL.out, if_neg c]
    have hc : decide (z.size < y.size) = false := by simpa using c
    go_enter Tryz.func49, Tryz.ntmps49
    go_wp2_with fail
    rw [HN.out]
    refine (itoaS_any n (by omega) (by omega) _ (HE.out.below (by (repeat' (first | assumption | exact Below.refl _ _ | refine Below.alloc ?_ (Nat.le_refl _) _)))) z HZ.out).mono ?_
    rintro e w1 ⟨rfl, hb1⟩
    go_wp2_with fail
    refine (itoaS_any (n + z.size) (by omega) (by omega) _ ((HE.out.below ((Below.refl _ _).alloc (Nat.le_refl _) _)).below hb1) y HY.out).mono ?_
    rintro e w2 ⟨rfl, hb2⟩
    go_wp2_with fail
    go_ret
    exact ⟨HF.out, below_out (below_next hb1 hb2)⟩

def badKey (k : ByteArray) : Bool := k.data.toList.any (fun b => b == 61 || b == 0 || b == 10)
def chkOf (k v : ByteArray) : Int := if k = ⟨#[]⟩ then 70 else if badKey k = true then 70 else if 4096 < k.size + v.size then 2 else 0
def CAny : Prop := ∀ (s : ByteArray) (w : World), s.size < 4294967281 → Calls Tryz.prog 78 #[.string s, .string ⟨#[61, 0, 10]⟩] w (Gives (.bool (badKey s)) w)

set_option maxHeartbeats 2000000 in
theorem check_any (hC : CAny) (k v : ByteArray) (hk : k.size < 4294967281) (hv : v.size ≤ 281474976710656) (w : World) :
    Calls Tryz.prog 46 #[.agg #[.string k, .string v]] w (Gives (.int .i64 (chkOf k v)) w) := by
  unfold chkOf
  by_cases c0 : k = ⟨#[]⟩
  · rw [if_pos c0]
    subst c0
    go_enter Tryz.func46, Tryz.ntmps46
    go_wp2
    go_ret
    exact ⟨rfl, (Below.refl _ _).alloc (Nat.le_refl _) _⟩
  · rw [if_neg c0]
    have hne := str_nonempty.2 c0
    clear c0
    have HC : Hid CAny := hC
    obtain ⟨q, hq⟩ : ∃ q, badKey k = q := ⟨_, rfl⟩
    have HCk : Hid (∀ w, Calls Tryz.prog 78 #[.string k, .string ⟨#[61, 0, 10]⟩] w (Gives (.bool q) w)) := fun w => hq ▸ hC k w hk
    rw [hq]
    clear hC hq HC
    cases q with
    | true =>
      rw [if_pos rfl]
      go_enter Tryz.func46, Tryz.ntmps46
      go_wp2_with (go_at_call 78; refine (HCk.out _).mono ?_; rintro e w1 ⟨rfl, hb1⟩)
      go_ret
      exact ⟨rfl, below_out hb1⟩
    | false =>
      rw [if_neg (by decide)]
      by_cases c1 : 4096 < k.size + v.size
      · rw [if_pos c1]
        have c1a : (4096 : Int) < k.size + v.size := by omega
        go_enter Tryz.func46, Tryz.ntmps46
        go_wp2_with (go_at_call 78; refine (HCk.out _).mono ?_; rintro e w1 ⟨rfl, hb1⟩; have hc0 := (hb1.cell (p := ⟨w.heap.size, 0, none⟩) (by simp)).trans ((Blk.new w _ _).cell 0); have hc1 := (hb1.cell (p := ⟨w.heap.size, 1, none⟩) (by simp)).trans ((Blk.new w _ _).cell 1))
        go_ret
        exact ⟨rfl, below_out hb1⟩
      · rw [if_neg c1]
        have c1a : ¬ (4096 : Int) < k.size + v.size := by omega
        go_enter Tryz.func46, Tryz.ntmps46
        go_wp2_with (go_at_call 78; refine (HCk.out _).mono ?_; rintro e w1 ⟨rfl, hb1⟩; have hc0 := (hb1.cell (p := ⟨w.heap.size, 0, none⟩) (by simp)).trans ((Blk.new w _ _).cell 0); have hc1 := (hb1.cell (p := ⟨w.heap.size, 1, none⟩) (by simp)).trans ((Blk.new w _ _).cell 1))
        go_ret
        exact ⟨rfl, below_out hb1⟩

theorem cut_any (s sep : ByteArray) (hs : s.size < 4294967281) (w : World) (he : Env w) (a b : ByteArray) (q : Bool) (h : Lib.cut s.data.toList sep.data.toList = (a.data.toList, b.data.toList, q)) :
    Calls Tryz.prog 66 #[.string s, .string sep] w (Gives (.tuple #[.string a, .string b, .bool q]) w) := by
  obtain ⟨m, hm⟩ := he.mx
  refine (Tryz.strings_Cut s sep m w hs hm).mono fun e w' ⟨x, n, y⟩ => ⟨?_, by subst y; exact below_drewN' (Below.refl _ _) n⟩
  rw [x, h]
theorem atoi_ok (s : ByteArray) (hs : s.size ≤ 18) (n : Int) (h : Lib.atoi s.data.toList = some n) (w : World) :
    Calls Tryz.prog 113 #[.string s] w (Gives (.tuple #[.int .i64 n, .nilIface]) w) :=
  (Tryz.strconv_Atoi s n hs h w).mono fun e w' ⟨a, t, b⟩ => ⟨a, by subst b; exact below_bytes _ _⟩
theorem var_cell {w : World} {v : Value} {g : Nat} {nm : String} (hg : Tryz.prog.globalNamed nm = some g) (h : w.var? Tryz.prog nm = some #[v]) : w.cell? ⟨g, 0, none⟩ = some v := by
  unfold World.var? at h
  rw [hg] at h
  simp only [Option.bind_some] at h
  unfold World.cell?
  split at h
  · rename_i cs _ _ hq
    injection h with h
    subst h
    simp [hq]
  · cases h
theorem atoi_bad (s : ByteArray) (hs : s.size ≤ 18) (h : Lib.atoi s.data.toList = none) (w : World) (he : EnvE w) :
    Calls Tryz.prog 113 #[.string s] w fun e w' => ∃ n t x, e = .returned (.tuple #[.int .i64 n, .iface t x]) ∧ Below w.heap.size w w' := by
  obtain ⟨tp, p, hv⟩ := he.syn
  exact (Tryz.strconv_Atoi_err s hs h (.iface tp p) w (var_cell gSyn hv) (.inr ⟨_, _, rfl⟩)).mono fun e w' ⟨N, a, _, _, b⟩ => ⟨_, _, _, a, b⟩
end Go.Proofs.YtpbpfngichfgeaaGreatDoor

namespace Go.Proofs.YtpbpfngichfgeaaGreatDoor
set_option linter.unusedVariables false
set_option linter.unusedSimpArgs false
open Go.RowKit Go.Sort

theorem results_cell_row_tmp2 {P : Program} {fn : Func} {p u v : Tmp} {ty : TypeId} (h : fn.results = #[.cell p ty, .tmp u, .tmp v]) (tmps : Array Value) (w : World) (g : Nat) (t : TypeId) (cs : Array Value) (fr : Nat × Nat) (d : TypeDesc)
    (hp : tmps.getD p undef = .pointer (some ⟨g, 0, none⟩)) (hg : w.heap[g]? = some (.cells cs t fr))
    (hu : P.underlying ty = some d) (hd : (match d with | .struct _ | .array _ _ => true | _ => false) = true) (hi : (P.info? ty).map (·.size) = some cs.size) :
    (results fn tmps).run P w = .ok (.tuple #[.agg cs, tmps.getD u undef, tmps.getD v undef]) w := by
  have hp' : tmps[p]?.getD undef = .pointer (some ⟨g, 0, none⟩) := by simpa using hp
  simp [results, h, hp', asAddr, run_loadVar_row w g t ty cs fr d hg hu hd hi]
theorem one_rets {w wc : World} {tmps : Array Value} {V : Value} {a0 b0 : Value} (hb : Below w.heap.size w wc) (hB : Blk wc w.heap.size 66 #[a0, b0]) (v0 v1 : Value)
    (hp : tmps.getD 2 undef = .pointer (some ⟨w.heap.size, 0, none⟩)) (hV : V = .tuple #[.agg #[v0, v1], tmps.getD 3 undef, tmps.getD 4 undef]) :
    bodyPost Tryz.prog Tryz.f97 (Gives V w) .ret { tmps := tmps, defers := [] } (World.setCell (World.setCell wc ⟨w.heap.size, 0, none⟩ v0) ⟨w.heap.size, 1, none⟩ v1) := by
  have h := (hB.set_ 0 v0).set_ 1 v1
  simp at h
  exact bodyPost_ret (by rw [hV]; exact results_cell_row_tmp2 rfl _ _ _ _ _ _ _ hp h Tryz.underlying66 rfl (by kernel_rfl)) rfl ⟨rfl, (hb.setCell (p := ⟨w.heap.size, 0, none⟩) (Nat.le_refl _) v0).setCell (p := ⟨w.heap.size, 1, none⟩) (Nat.le_refl _) v1⟩

theorem one_rets_drew {w wc : World} {tmps : Array Value} {V : Value} {a0 b0 : Value} (hb : Below w.heap.size w wc) (hB : Blk wc w.heap.size 66 #[a0, b0]) (v0 v1 : Value)
    (hp : tmps.getD 2 undef = .pointer (some ⟨w.heap.size, 0, none⟩)) (hV : V = .tuple #[.agg #[v0, v1], tmps.getD 3 undef, tmps.getD 4 undef]) :
    bodyPost Tryz.prog Tryz.f97 (Gives V w) .ret { tmps := tmps, defers := [] } (World.setCell (World.setCell wc ⟨w.heap.size, 0, none⟩ v0) ⟨w.heap.size, 1, none⟩ v1).drew := by
  have h := (hB.set_ 0 v0).set_ 1 v1
  simp at h
  exact bodyPost_ret (by rw [hV]; exact results_cell_row_tmp2 rfl _ _ _ _ _ _ _ hp h.drew Tryz.underlying66 rfl (by kernel_rfl)) rfl ⟨rfl, ((hb.setCell (p := ⟨w.heap.size, 0, none⟩) (Nat.le_refl _) v0).setCell (p := ⟨w.heap.size, 1, none⟩) (Nat.le_refl _) v1).drew⟩

def oneV (k v rest : ByteArray) (e : Int) : Value := .tuple #[.agg #[.string k, .string v], .string rest, .int .i64 e]
def oneOf (s : ByteArray) : ByteArray × ByteArray × ByteArray × Int :=
  let c := Lib.cut s.data.toList [32]
  if c.2.2 = false then (⟨#[]⟩, ⟨#[]⟩, ⟨#[]⟩, 70) else if 5 < c.1.length then (⟨#[]⟩, ⟨#[]⟩, ⟨#[]⟩, 70) else
  match Lib.atoi c.1 with
  | none => (⟨#[]⟩, ⟨#[]⟩, ⟨#[]⟩, 70)
  | some n =>
    if Lib.itoa n ≠ c.1 then (⟨#[]⟩, ⟨#[]⟩, ⟨#[]⟩, 70) else if n ≤ c.1.length + 1 then (⟨#[]⟩, ⟨#[]⟩, ⟨#[]⟩, 70) else if (s.size : Int) < n then (⟨#[]⟩, ⟨#[]⟩, ⟨#[]⟩, 70) else
    if s.data.toList.getD (n - 1).toNat 0 ≠ 10 then (⟨#[]⟩, ⟨#[]⟩, ⟨#[]⟩, 70) else
    let kv := Lib.cut (s.extract (c.1.length + 1) (n.toNat - 1)).data.toList [61]
    if kv.2.2 = false then (⟨#[]⟩, ⟨#[]⟩, ⟨#[]⟩, 70) else
    if lenOf ⟨kv.1.toArray⟩ ⟨kv.2.1.toArray⟩ ≠ n then (⟨#[]⟩, ⟨#[]⟩, ⟨#[]⟩, 70) else
    if chkOf ⟨kv.1.toArray⟩ ⟨kv.2.1.toArray⟩ ≠ 0 then (⟨#[]⟩, ⟨#[]⟩, ⟨#[]⟩, chkOf ⟨kv.1.toArray⟩ ⟨kv.2.1.toArray⟩) else
    (⟨kv.1.toArray⟩, ⟨kv.2.1.toArray⟩, s.extract n.toNat s.size, 0)
def oneW (s : ByteArray) : Value := oneV (oneOf s).1 (oneOf s).2.1 (oneOf s).2.2.1 (oneOf s).2.2.2

theorem str_index (P : Program) (s : ByteArray) (i : Int) (h0 : 0 ≤ i) (h1 : i < s.size) (t : TypeId) (ht : P.underlying t = some .string) (wx : World) :
    (Instr.index t (.string s) (.int .i64 i)).run P wx = .ok (.int .u8 ((s.data.toList.getD i.toNat 0).toNat : Nat)) wx := by
  rw [run_index_string wx t s .i64 _ ht, dif_pos ⟨h0, by omega⟩, Lib.getD_at s _ (by omega)]
theorem atoi_bounds {s : ByteArray} {n : Int} (hs : s.size ≤ 5) (h : Lib.atoi s.data.toList = some n) : -9223372036854775808 ≤ n ∧ n ≤ 9223372036854775807 := by
  have := Lib.atoi_bound h (by rw [← Lib.size_eq]; omega)
  omega
theorem cut_le (s sep : List UInt8) : (Lib.cut s sep).1.length ≤ s.length ∧ (Lib.cut s sep).2.1.length ≤ s.length := by
  unfold Lib.cut
  split
  · simp only [List.length_take, List.length_drop]; omega
  · simp

set_option maxRecDepth 100000 in
set_option maxHeartbeats 2000000 in
theorem one_any (hC : CAny) (s : ByteArray) (hs : s.size < 4294967281) (w : World) (he : EnvE w) :
    Calls Tryz.prog 97 #[.string s] w (Gives (oneW s) w) := by
  obtain ⟨V, hV⟩ : ∃ V, oneW s = V := ⟨_, rfl⟩
  rw [hV]
  obtain ⟨c1, c2, q, hc⟩ : ∃ c1 c2 q, Lib.cut s.data.toList [32] = (c1, c2, q) := ⟨_, _, _, rfl⟩
  have hle := cut_le s.data.toList [32]
  obtain ⟨hd, hhd⟩ : ∃ hd : ByteArray, hd = ⟨c1.toArray⟩ := ⟨_, rfl⟩
  have hdl : hd.data.toList = c1 := by rw [hhd]
  have hds : c1.length = hd.size := by rw [← hdl]; exact Lib.size_eq hd |>.symm
  have HC := Lib.hid (fun w he => cut_any s ⟨#[32]⟩ hs w he ⟨c1.toArray⟩ ⟨c2.toArray⟩ q hc)
  have HCA : Hid CAny := hC
  have HE := Lib.hid he
  have HD := Lib.hid hdl
  rw [← hhd] at HC
  have b0 : Blk (w.alloc (.cells #[.string ⟨#[]⟩, .string ⟨#[]⟩] 66)) w.heap.size 66 #[.string ⟨#[]⟩, .string ⟨#[]⟩] := Blk.new _ _ _
  have lb0 : Below w.heap.size w (w.alloc (.cells #[.string ⟨#[]⟩, .string ⟨#[]⟩] 66)) := (Below.refl _ _).alloc (Nat.le_refl _) _
  have HB0 := Lib.hid b0
  have HLB0 := Lib.hid lb0
  have hs0 : s.data.toList.length = s.size := (Lib.size_eq s).symm
  rw [hc] at hle
  have hle1 : hd.size ≤ s.size := by rw [← hds, ← hs0]; exact hle.1
  clear hC he b0 lb0 hle hhd hdl
  cases q with
  | false =>
    have HV : Hid (oneV ⟨#[]⟩ ⟨#[]⟩ ⟨#[]⟩ 70 = V) := by show _ = V; rw [← hV]; unfold oneW; have h1 : oneOf s = (⟨#[]⟩, ⟨#[]⟩, ⟨#[]⟩, 70) := (by unfold oneOf; simp only [hc, if_true]); rw [h1]
    clear hV hc hds hs0
    go_enter Tryz.func97, Tryz.ntmps97
    go_wp2_with fail
    refine (HC.out _ (HE.out.env.below HLB0.out)).mono ?_
    rintro e w1 ⟨rfl, hb1⟩
    have b1 := HB0.out.below hb1 HB0.out.lt
    have B1 := below_next HLB0.out hb1
    have x0 := b1.cell 0; have x1 := b1.cell 1; have y0 := b1.frozen 0; have y1 := b1.frozen 1
    go_wp2_with fail
    try simp only [Exit.inBlock, Exit.then]
    exact one_rets B1 b1 _ _ rfl HV.out.symm
  | true =>
    by_cases hn5 : 5 < hd.size
    · have HV : Hid (oneV ⟨#[]⟩ ⟨#[]⟩ ⟨#[]⟩ 70 = V) := by show _ = V; rw [← hV]; unfold oneW; have h1 : oneOf s = (⟨#[]⟩, ⟨#[]⟩, ⟨#[]⟩, 70) := (by unfold oneOf; simp only [hc, hds]; rw [if_neg (by decide)]; rw [if_pos hn5]); rw [h1]
      clear hV hc hds hs0
      go_enter Tryz.func97, Tryz.ntmps97
      go_wp2_with fail
      refine (HC.out _ (HE.out.env.below HLB0.out)).mono ?_
      rintro e w1 ⟨rfl, hb1⟩
      have b1 := HB0.out.below hb1 HB0.out.lt
      have B1 := below_next HLB0.out hb1
      clear hb1
      have x0 := b1.cell 0; have x1 := b1.cell 1; have y0 := b1.frozen 0; have y1 := b1.frozen 1
      go_wp2_with fail
      try simp only [Exit.inBlock, Exit.then]
      exact one_rets B1 b1 _ _ rfl HV.out.symm
    have HN5 : Hid (¬ 5 < hd.size) := hn5
    have hn5i : hd.size ≤ 5 := by omega
    rcases han : Lib.atoi hd.data.toList with _ | n
    · have han1 : Lib.atoi c1 = none := by rw [← HD.out]; exact han
      have HV : Hid (oneV ⟨#[]⟩ ⟨#[]⟩ ⟨#[]⟩ 70 = V) := by show _ = V; rw [← hV]; unfold oneW; have h1 : oneOf s = (⟨#[]⟩, ⟨#[]⟩, ⟨#[]⟩, 70) := (by unfold oneOf; simp only [hc, hds]; rw [if_neg (by decide)]; rw [if_neg hn5]; simp only [han1]); rw [h1]
      have HAN := Lib.hid han
      clear hV hc hds hs0 han han1 hn5
      go_enter Tryz.func97, Tryz.ntmps97
      go_wp2_with fail
      refine (HC.out _ (HE.out.env.below HLB0.out)).mono ?_
      rintro e w1 ⟨rfl, hb1⟩
      have b1 := HB0.out.below hb1 HB0.out.lt
      have B1 := below_next HLB0.out hb1
      clear hb1
      go_wp2_with fail
      refine (atoi_bad hd (by omega) HAN.out _ (HE.out.below B1)).mono ?_
      rintro e w2 ⟨n, t, x, rfl, hb2⟩
      have b2 := b1.below hb2 b1.lt
      have B2 := below_next B1 hb2
      clear b1 B1 hb2
      have x0 := b2.cell 0; have x1 := b2.cell 1; have y0 := b2.frozen 0; have y1 := b2.frozen 1
      go_wp2_with fail
      try simp only [Exit.inBlock, Exit.then]
      exact one_rets B2 b2 _ _ rfl HV.out.symm
    have han1 : Lib.atoi c1 = some n := by rw [← HD.out]; exact han
    have HAN := Lib.hid han
    have nb := atoi_bounds (by omega) han
    clear han hn5
    by_cases hit : itoaS n = hd
    rotate_left
    · have hit1 : Lib.itoa n ≠ c1 := by intro h; apply hit; rw [itoaS, h, ← HD.out]
      have HV : Hid (oneV ⟨#[]⟩ ⟨#[]⟩ ⟨#[]⟩ 70 = V) := by show _ = V; rw [← hV]; unfold oneW; have h1 : oneOf s = (⟨#[]⟩, ⟨#[]⟩, ⟨#[]⟩, 70) := (by unfold oneOf; simp only [hc, hds]; rw [if_neg (by decide)]; rw [if_neg (show ¬ 5 < hd.size by have := HN5.out; omega)]; simp only [han1]; rw [if_pos hit1]); rw [h1]
      have hq := str_false hit
      generalize hz : itoaS n = z at hq
      have HZ := Lib.hid hz
      clear hV hc hds hs0 han1 hit hit1 hz
      go_enter Tryz.func97, Tryz.ntmps97
      go_wp2_with fail
      refine (HC.out _ (HE.out.env.below HLB0.out)).mono ?_
      rintro e w1 ⟨rfl, hb1⟩
      have b1 := HB0.out.below hb1 HB0.out.lt
      have B1 := below_next HLB0.out hb1
      clear hb1
      go_wp2_with fail
      refine (atoi_ok hd (by omega) n HAN.out _).mono ?_
      rintro e w2 ⟨rfl, hb2⟩
      have b2 := b1.below hb2 b1.lt
      have B2 := below_next B1 hb2
      clear b1 B1 hb2
      go_wp2_with fail
      refine (itoaS_any n (by omega) (by omega) _ (HE.out.env.below B2) z HZ.out).mono ?_
      rintro e w3 ⟨rfl, hb3⟩
      have b3 := b2.below hb3 b2.lt
      have B3 := below_next B2 hb3
      clear b2 B2 hb3
      have x0 := b3.cell 0; have x1 := b3.cell 1; have y0 := b3.frozen 0; have y1 := b3.frozen 1
      go_wp2_with fail
      try simp only [Exit.inBlock, Exit.then]
      exact one_rets B3 b3 _ _ rfl HV.out.symm
    have hit1 : Lib.itoa n = c1 := by have := congrArg (·.data.toList) hit; simp only [itoaS] at this; rw [← HD.out]; exact this
    have HIT := Lib.hid hit
    clear hit
    have hself := str_self hd
    by_cases hn1 : n ≤ hd.size + 1
    · have HV : Hid (oneV ⟨#[]⟩ ⟨#[]⟩ ⟨#[]⟩ 70 = V) := by show _ = V; rw [← hV]; unfold oneW; have h1 : oneOf s = (⟨#[]⟩, ⟨#[]⟩, ⟨#[]⟩, 70) := (by unfold oneOf; simp only [hc, hds]; rw [if_neg (by decide)]; rw [if_neg (show ¬ 5 < hd.size by have := HN5.out; omega)]; simp only [han1]; rw [if_neg (fun h => h hit1)]; rw [if_pos hn1]); rw [h1]
      clear hV hc hds hs0 han1 hit1
      go_enter Tryz.func97, Tryz.ntmps97
      go_wp2_with fail
      refine (HC.out _ (HE.out.env.below HLB0.out)).mono ?_
      rintro e w1 ⟨rfl, hb1⟩
      have b1 := HB0.out.below hb1 HB0.out.lt
      have B1 := below_next HLB0.out hb1
      clear hb1
      go_wp2_with fail
      refine (atoi_ok hd (by omega) n HAN.out _).mono ?_
      rintro e w2 ⟨rfl, hb2⟩
      have b2 := b1.below hb2 b1.lt
      have B2 := below_next B1 hb2
      clear b1 B1 hb2
      go_wp2_with fail
      refine (itoaS_any n (by omega) (by omega) _ (HE.out.env.below B2) hd HIT.out).mono ?_
      rintro e w3 ⟨rfl, hb3⟩
      have b3 := b2.below hb3 b2.lt
      have B3 := below_next B2 hb3
      clear b2 B2 hb3
      have x0 := b3.cell 0; have x1 := b3.cell 1; have y0 := b3.frozen 0; have y1 := b3.frozen 1
      go_wp2_with fail
      try simp only [Exit.inBlock, Exit.then]
      exact one_rets B3 b3 _ _ rfl HV.out.symm
    by_cases hn2 : (s.size : Int) < n
    · have HV : Hid (oneV ⟨#[]⟩ ⟨#[]⟩ ⟨#[]⟩ 70 = V) := by show _ = V; rw [← hV]; unfold oneW; have h1 : oneOf s = (⟨#[]⟩, ⟨#[]⟩, ⟨#[]⟩, 70) := (by unfold oneOf; simp only [hc, hds]; rw [if_neg (by decide)]; rw [if_neg (show ¬ 5 < hd.size by have := HN5.out; omega)]; simp only [han1]; rw [if_neg (fun h => h hit1)]; rw [if_neg hn1]; rw [if_pos hn2]); rw [h1]
      clear hV hc hds hs0 han1 hit1
      go_enter Tryz.func97, Tryz.ntmps97
      go_wp2_with fail
      refine (HC.out _ (HE.out.env.below HLB0.out)).mono ?_
      rintro e w1 ⟨rfl, hb1⟩
      have b1 := HB0.out.below hb1 HB0.out.lt
      have B1 := below_next HLB0.out hb1
      clear hb1
      go_wp2_with fail
      refine (atoi_ok hd (by omega) n HAN.out _).mono ?_
      rintro e w2 ⟨rfl, hb2⟩
      have b2 := b1.below hb2 b1.lt
      have B2 := below_next B1 hb2
      clear b1 B1 hb2
      go_wp2_with fail
      refine (itoaS_any n (by omega) (by omega) _ (HE.out.env.below B2) hd HIT.out).mono ?_
      rintro e w3 ⟨rfl, hb3⟩
      have b3 := b2.below hb3 b2.lt
      have B3 := below_next B2 hb3
      clear b2 B2 hb3
      have x0 := b3.cell 0; have x1 := b3.cell 1; have y0 := b3.frozen 0; have y1 := b3.frozen 1
      go_wp2_with fail
      try simp only [Exit.inBlock, Exit.then]
      exact one_rets B3 b3 _ _ rfl HV.out.symm
    have hix := fun wx => str_index Tryz.prog s (n - 1) (by omega) (by omega) 9 Tryz.underlying9 wx
    obtain ⟨b, hb⟩ : ∃ b : UInt8, s.data.toList.getD (n - 1).toNat 0 = b := ⟨_, rfl⟩
    rw [hb] at hix
    by_cases hn3 : b = 10
    rotate_left
    · have HV : Hid (oneV ⟨#[]⟩ ⟨#[]⟩ ⟨#[]⟩ 70 = V) := by show _ = V; rw [← hV]; unfold oneW; have h1 : oneOf s = (⟨#[]⟩, ⟨#[]⟩, ⟨#[]⟩, 70) := (by unfold oneOf; simp only [hc, hds]; rw [if_neg (by decide)]; rw [if_neg (show ¬ 5 < hd.size by have := HN5.out; omega)]; simp only [han1]; rw [if_neg (fun h => h hit1)]; rw [if_neg hn1]; rw [if_neg hn2]; rw [if_pos (by rw [hb]; exact hn3)]); rw [h1]
      have hbq : ((b.toNat : Int) != 10) = true := by rw [bne_iff_ne]; intro h; apply hn3; exact UInt8.toNat_inj.1 (show b.toNat = 10 by exact_mod_cast h)
      clear hV hc hds hs0 han1 hit1 hb hn3
      go_enter Tryz.func97, Tryz.ntmps97
      go_wp2_with fail
      refine (HC.out _ (HE.out.env.below HLB0.out)).mono ?_
      rintro e w1 ⟨rfl, hb1⟩
      have b1 := HB0.out.below hb1 HB0.out.lt
      have B1 := below_next HLB0.out hb1
      clear hb1
      go_wp2_with fail
      refine (atoi_ok hd (by omega) n HAN.out _).mono ?_
      rintro e w2 ⟨rfl, hb2⟩
      have b2 := b1.below hb2 b1.lt
      have B2 := below_next B1 hb2
      clear b1 B1 hb2
      go_wp2_with fail
      refine (itoaS_any n (by omega) (by omega) _ (HE.out.env.below B2) hd HIT.out).mono ?_
      rintro e w3 ⟨rfl, hb3⟩
      have b3 := b2.below hb3 b2.lt
      have B3 := below_next B2 hb3
      clear b2 B2 hb3
      have x0 := b3.cell 0; have x1 := b3.cell 1; have y0 := b3.frozen 0; have y1 := b3.frozen 1
      go_wp2_with fail
      try simp only [Exit.inBlock, Exit.then]
      exact one_rets B3 b3 _ _ rfl HV.out.symm
    subst hn3
    have hsl : ∀ wx, (Instr.slice 9 (.string s) (some (.int .i64 ((hd.size : Int) + 1))) (some (.int .i64 (n - 1))) none).run Tryz.prog wx = .ok (.string (s.extract (hd.size + 1) (n.toNat - 1))) wx := fun wx => by
      have e1 : ((hd.size : Int) + 1).toNat = hd.size + 1 := by omega
      have h := run_slice_string (P := Tryz.prog) (w := wx) 9 s .i64 .i64 ((hd.size : Int) + 1) (n - 1) Tryz.underlying9 (by omega) (by omega) (by omega)
      rw [e1, show (n - 1).toNat = n.toNat - 1 by omega] at h
      exact h
    obtain ⟨ks, vs, q2, hc2⟩ : ∃ ks vs q2, Lib.cut (s.extract (hd.size + 1) (n.toNat - 1)).data.toList [61] = (ks, vs, q2) := ⟨_, _, _, rfl⟩
    obtain ⟨k2, hk2⟩ : ∃ k2 : ByteArray, k2 = ⟨ks.toArray⟩ := ⟨_, rfl⟩
    obtain ⟨v2, hv2⟩ : ∃ v2 : ByteArray, v2 = ⟨vs.toArray⟩ := ⟨_, rfl⟩
    have hxs : (s.extract (hd.size + 1) (n.toNat - 1)).size ≤ s.size := by simp [ByteArray.size_extract]; omega
    have HC2 := Lib.hid (fun w he => cut_any (s.extract (hd.size + 1) (n.toNat - 1)) ⟨#[61]⟩ (by omega) w he k2 v2 q2 (by rw [hk2, hv2]; exact hc2))
    have hkl := cut_le (s.extract (hd.size + 1) (n.toNat - 1)).data.toList [61]
    rw [hc2, ← Lib.size_eq] at hkl
    have hks : k2.size ≤ s.size := by rw [Lib.size_eq, hk2]; exact Nat.le_trans hkl.1 hxs
    have hvs : v2.size ≤ s.size := by rw [Lib.size_eq, hv2]; exact Nat.le_trans hkl.2 hxs
    clear hkl hxs
    cases q2 with
    | false =>
      have HV : Hid (oneV ⟨#[]⟩ ⟨#[]⟩ ⟨#[]⟩ 70 = V) := by show _ = V; rw [← hV]; unfold oneW; have h1 : oneOf s = (⟨#[]⟩, ⟨#[]⟩, ⟨#[]⟩, 70) := (by unfold oneOf; simp only [hc, hds]; rw [if_neg (by decide)]; rw [if_neg (show ¬ 5 < hd.size by have := HN5.out; omega)]; simp only [han1]; rw [if_neg (fun h => h hit1)]; rw [if_neg hn1]; rw [if_neg hn2]; rw [if_neg (by rw [hb]; exact fun h => h rfl)]; simp only [hc2, if_true]); rw [h1]
      clear hV hc hds hs0 han1 hit1 hb hc2 hk2 hv2
      go_enter Tryz.func97, Tryz.ntmps97
      go_wp2_with fail
      refine (HC.out _ (HE.out.env.below HLB0.out)).mono ?_
      rintro e w1 ⟨rfl, hb1⟩
      have b1 := HB0.out.below hb1 HB0.out.lt
      have B1 := below_next HLB0.out hb1
      clear hb1
      go_wp2_with fail
      refine (atoi_ok hd (by omega) n HAN.out _).mono ?_
      rintro e w2 ⟨rfl, hb2⟩
      have b2 := b1.below hb2 b1.lt
      have B2 := below_next B1 hb2
      clear b1 B1 hb2
      go_wp2_with fail
      refine (itoaS_any n (by omega) (by omega) _ (HE.out.env.below B2) hd HIT.out).mono ?_
      rintro e w3 ⟨rfl, hb3⟩
      have b3 := b2.below hb3 b2.lt
      have B3 := below_next B2 hb3
      clear b2 B2 hb3
      go_wp2_with fail
      refine (HC2.out _ (HE.out.env.below B3)).mono ?_
      rintro e w4 ⟨rfl, hb4⟩
      have b4 := b3.below hb4 b3.lt
      have B4 := below_next B3 hb4
      clear b3 B3 hb4
      have d4 := b4.alloc (.cells #[.string k2, .string v2] 66)
      have D4 := B4.alloc B4.size (.cells #[.string k2, .string v2] 66)
      have x0 := d4.cell 0; have x1 := d4.cell 1; have y0 := d4.frozen 0; have y1 := d4.frozen 1
      go_wp2_with fail
      try simp only [Exit.inBlock, Exit.then]
      exact one_rets D4 d4 _ _ rfl HV.out.symm
    | true =>
      obtain ⟨L, hL⟩ : ∃ L, lenOf k2 v2 = L := ⟨_, rfl⟩
      have HL := Lib.hid hL
      by_cases hln : L = n
      rotate_left
      · have HV : Hid (oneV ⟨#[]⟩ ⟨#[]⟩ ⟨#[]⟩ 70 = V) := by show _ = V; rw [← hV]; unfold oneW; have h1 : oneOf s = (⟨#[]⟩, ⟨#[]⟩, ⟨#[]⟩, 70) := (by unfold oneOf; simp only [hc, hds]; rw [if_neg (by decide)]; rw [if_neg (show ¬ 5 < hd.size by have := HN5.out; omega)]; simp only [han1]; rw [if_neg (fun h => h hit1)]; rw [if_neg hn1]; rw [if_neg hn2]; rw [if_neg (by rw [hb]; exact fun h => h rfl)]; simp only [hc2]; rw [← hk2, ← hv2]; rw [if_neg (by decide)]; rw [if_pos (fun h => hln (hL.symm.trans h))]); rw [h1]
        have hlq : (L == n) = false := by simpa using hln
        clear hV hc hds hs0 han1 hit1 hb hc2 hk2 hv2 hL hln
        go_enter Tryz.func97, Tryz.ntmps97
        go_wp2_with fail
        refine (HC.out _ (HE.out.env.below HLB0.out)).mono ?_
        rintro e w1 ⟨rfl, hb1⟩
        have b1 := HB0.out.below hb1 HB0.out.lt
        have B1 := below_next HLB0.out hb1
        clear hb1
        go_wp2_with fail
        refine (atoi_ok hd (by omega) n HAN.out _).mono ?_
        rintro e w2 ⟨rfl, hb2⟩
        have b2 := b1.below hb2 b1.lt
        have B2 := below_next B1 hb2
        clear b1 B1 hb2
        go_wp2_with fail
        refine (itoaS_any n (by omega) (by omega) _ (HE.out.env.below B2) hd HIT.out).mono ?_
        rintro e w3 ⟨rfl, hb3⟩
        have b3 := b2.below hb3 b2.lt
        have B3 := below_next B2 hb3
        clear b2 B2 hb3
        go_wp2_with fail
        refine (HC2.out _ (HE.out.env.below B3)).mono ?_
        rintro e w4 ⟨rfl, hb4⟩
        have b4 := b3.below hb4 b3.lt
        have B4 := below_next B3 hb4
        clear b3 B3 hb4
        go_wp2_with fail
        refine (length_any k2 v2 (by omega) (by omega) _ ((HE.out.env.below B4).alloc _)).mono ?_
        rw [HL.out]
        rintro e w5 ⟨rfl, hb5⟩
        have b5 := (b4.alloc (.cells #[.string k2, .string v2] 66)).below hb5 (b4.alloc _).lt
        have r5 : Blk w5 w4.heap.size 66 #[.string k2, .string v2] := (Blk.new w4 66 #[.string k2, .string v2]).below hb5 (by simp)
        have B5 := below_next (B4.alloc B4.size (.cells #[.string k2, .string v2] 66)) hb5
        generalize w4.heap.size = g4 at r5 ⊢
        clear b4 B4 hb5
        have x0 := b5.cell 0; have x1 := b5.cell 1; have y0 := b5.frozen 0; have y1 := b5.frozen 1
        go_wp2_with fail
        try simp only [Exit.inBlock, Exit.then]
        exact one_rets B5 b5 _ _ rfl HV.out.symm
      obtain rfl : n = L := hln.symm
      obtain ⟨E, hE⟩ : ∃ E, chkOf k2 v2 = E := ⟨_, rfl⟩
      have HK := Lib.hid hE
      by_cases hE0 : E = 0
      rotate_left
      · have HV : Hid (oneV ⟨#[]⟩ ⟨#[]⟩ ⟨#[]⟩ E = V) := by show _ = V; rw [← hV]; unfold oneW; have h1 : oneOf s = (⟨#[]⟩, ⟨#[]⟩, ⟨#[]⟩, E) := (by unfold oneOf; simp only [hc, hds]; rw [if_neg (by decide)]; rw [if_neg (show ¬ 5 < hd.size by have := HN5.out; omega)]; simp only [han1]; rw [if_neg (fun h => h hit1)]; rw [if_neg hn1]; rw [if_neg hn2]; rw [if_neg (by rw [hb]; exact fun h => h rfl)]; simp only [hc2]; rw [← hk2, ← hv2]; rw [if_neg (by decide)]; rw [if_neg (fun h => h hL)]; rw [if_pos (fun h => hE0 (hE.symm.trans h)), hE]); rw [h1]
        have hlq : (E == 0) = false := by simpa using hE0
        clear hV hc hds hs0 han1 hit1 hb hc2 hk2 hv2 hL hE hE0
        go_enter Tryz.func97, Tryz.ntmps97
        go_wp2_with fail
        refine (HC.out _ (HE.out.env.below HLB0.out)).mono ?_
        rintro e w1 ⟨rfl, hb1⟩
        have b1 := HB0.out.below hb1 HB0.out.lt
        have B1 := below_next HLB0.out hb1
        clear hb1
        go_wp2_with fail
        refine (atoi_ok hd (by omega) n HAN.out _).mono ?_
        rintro e w2 ⟨rfl, hb2⟩
        have b2 := b1.below hb2 b1.lt
        have B2 := below_next B1 hb2
        clear b1 B1 hb2
        go_wp2_with fail
        refine (itoaS_any n (by omega) (by omega) _ (HE.out.env.below B2) hd HIT.out).mono ?_
        rintro e w3 ⟨rfl, hb3⟩
        have b3 := b2.below hb3 b2.lt
        have B3 := below_next B2 hb3
        clear b2 B2 hb3
        go_wp2_with fail
        refine (HC2.out _ (HE.out.env.below B3)).mono ?_
        rintro e w4 ⟨rfl, hb4⟩
        have b4 := b3.below hb4 b3.lt
        have B4 := below_next B3 hb4
        clear b3 B3 hb4
        go_wp2_with fail
        refine (length_any k2 v2 (by omega) (by omega) _ ((HE.out.env.below B4).alloc _)).mono ?_
        rw [HL.out]
        rintro e w5 ⟨rfl, hb5⟩
        have b5 := (b4.alloc (.cells #[.string k2, .string v2] 66)).below hb5 (b4.alloc _).lt
        have r5 : Blk w5 w4.heap.size 66 #[.string k2, .string v2] := (Blk.new w4 66 #[.string k2, .string v2]).below hb5 (by simp)
        have B5 := below_next (B4.alloc B4.size (.cells #[.string k2, .string v2] 66)) hb5
        generalize w4.heap.size = g4 at r5 ⊢
        clear b4 B4 hb5
        have r0 := r5.cell 0; have r1 := r5.cell 1
        go_wp2_with fail
        refine (check_any HCA.out k2 v2 (by omega) (by omega) _).mono ?_
        rw [HK.out]
        rintro e w6 ⟨rfl, hb6⟩
        have b6 := b5.below hb6 b5.lt
        have r6 := r5.below hb6 r5.lt
        have B6 := below_next B5 hb6
        clear b5 r5 B5 hb6 r0 r1
        have x0 := b6.cell 0; have x1 := b6.cell 1; have y0 := b6.frozen 0; have y1 := b6.frozen 1
        go_wp2_with fail
        try simp only [Exit.inBlock, Exit.then]
        exact one_rets B6 b6 _ _ rfl HV.out.symm
      · subst hE0
        have HV : Hid (oneV k2 v2 (s.extract n.toNat s.size) 0 = V) := by show _ = V; rw [← hV]; unfold oneW; have h1 : oneOf s = (k2, v2, s.extract n.toNat s.size, 0) := (by unfold oneOf; simp only [hc, hds]; rw [if_neg (by decide)]; rw [if_neg (show ¬ 5 < hd.size by have := HN5.out; omega)]; simp only [han1]; rw [if_neg (fun h => h hit1)]; rw [if_neg hn1]; rw [if_neg hn2]; rw [if_neg (by rw [hb]; exact fun h => h rfl)]; simp only [hc2]; rw [← hk2, ← hv2]; rw [if_neg (by decide)]; rw [if_neg (fun h => h hL)]; rw [if_neg (fun h => h hE)]); rw [h1]
        clear hV hc hds hs0 han1 hit1 hb hc2 hk2 hv2 hL hE
        go_enter Tryz.func97, Tryz.ntmps97
        go_wp2_with fail
        refine (HC.out _ (HE.out.env.below HLB0.out)).mono ?_
        rintro e w1 ⟨rfl, hb1⟩
        have b1 := HB0.out.below hb1 HB0.out.lt
        have B1 := below_next HLB0.out hb1
        clear hb1
        go_wp2_with fail
        refine (atoi_ok hd (by omega) n HAN.out _).mono ?_
        rintro e w2 ⟨rfl, hb2⟩
        have b2 := b1.below hb2 b1.lt
        have B2 := below_next B1 hb2
        clear b1 B1 hb2
        go_wp2_with fail
        refine (itoaS_any n (by omega) (by omega) _ (HE.out.env.below B2) hd HIT.out).mono ?_
        rintro e w3 ⟨rfl, hb3⟩
        have b3 := b2.below hb3 b2.lt
        have B3 := below_next B2 hb3
        clear b2 B2 hb3
        go_wp2_with fail
        refine (HC2.out _ (HE.out.env.below B3)).mono ?_
        rintro e w4 ⟨rfl, hb4⟩
        have b4 := b3.below hb4 b3.lt
        have B4 := below_next B3 hb4
        clear b3 B3 hb4
        go_wp2_with fail
        refine (length_any k2 v2 (by omega) (by omega) _ ((HE.out.env.below B4).alloc _)).mono ?_
        rw [HL.out]
        rintro e w5 ⟨rfl, hb5⟩
        have b5 := (b4.alloc (.cells #[.string k2, .string v2] 66)).below hb5 (b4.alloc _).lt
        have r5 : Blk w5 w4.heap.size 66 #[.string k2, .string v2] := (Blk.new w4 66 #[.string k2, .string v2]).below hb5 (by simp)
        have B5 := below_next (B4.alloc B4.size (.cells #[.string k2, .string v2] 66)) hb5
        generalize w4.heap.size = g4 at r5 ⊢
        clear b4 B4 hb5
        have r0 := r5.cell 0; have r1 := r5.cell 1
        go_wp2_with fail
        refine (check_any HCA.out k2 v2 (by omega) (by omega) _).mono ?_
        rw [HK.out]
        rintro e w6 ⟨rfl, hb6⟩
        have b6 := b5.below hb6 b5.lt
        have r6 := r5.below hb6 r5.lt
        have B6 := below_next B5 hb6
        clear b5 r5 B5 hb6 r0 r1
        have x0 := b6.cell 0; have x1 := b6.cell 1; have y0 := b6.frozen 0; have y1 := b6.frozen 1
        have r0 := r6.cell 0; have r1 := r6.cell 1
        go_wp2_with fail
        go_region
        go_wp2_with fail
        try simp only [Exit.inBlock, Exit.then]
        exact one_rets_drew B6 b6 _ _ rfl HV.out.symm
end Go.Proofs.YtpbpfngichfgeaaGreatDoor

namespace Go.Proofs.YtpbpfngichfgeaaGreatDoor
set_option linter.unusedVariables false
set_option linter.unusedSimpArgs false
open Go.RowKit Go.Sort

def recT (k v : ByteArray) : ByteArray := itoaS (lenOf k v) ++ ⟨#[32]⟩ ++ k ++ ⟨#[61]⟩ ++ v ++ ⟨#[10]⟩
def encL (l : List Rec) : List UInt8 := (l.map fun r => (recT r.1 r.2).data.toList).flatten
/-- The cells of a list of records. -/
def RecC (w : World) (A : Option Addr) (l : List Rec) : Prop :=
 ∀ i, i < l.length → ∃ b off, A = some ⟨b, off, none⟩ ∧ b < w.heap.size ∧ w.cell? ⟨b, off + i * 2, none⟩ = some (.string (l.getD i default).1) ∧ w.cell? ⟨b, off + i * 2 + 1, none⟩ = some (.string (l.getD i default).2)
/-- The first error of a list of records. -/
def chkL : List Rec → Int
 | [] => 0
 | r :: l => if chkOf r.1 r.2 = 0 then chkL l else chkOf r.1 r.2
def encOf (l : List Rec) : List UInt8 × Int := if 64 < l.length then ([], 2) else if chkL l = 0 then (encL l, 0) else ([], chkL l)

theorem ownsRow_below2 {B : Nat} {e : TypeId} {k : Nat} {v : Value} {n : Nat} {xs : List Value} {w w' : World} (h : w.ownsRow B e k v n xs) (hb : Below w.heap.size w w') : w'.ownsRow B e k v n xs := by
 refine ⟨h.1, ?_⟩
 rcases h.2 with h0 | ⟨g, cap, cur, hv, hB, hh, r⟩
 ·exact .inl h0
 ·refine .inr ⟨g, cap, cur, hv, hB, ?_, r⟩
  have hlt : g < w.heap.size := by
   rcases Nat.lt_or_ge g w.heap.size with h' | h'
   ·exact h'
   ·simp [Array.getElem?_eq_none h'] at hh
  exact (hb.block g hlt).trans hh
theorem builder_below {T e : TypeId} {B b : Nat} {bs : List Value} {w w' : World} (h : Lib.IsBuilder T e B b bs w) (hb : Below w.heap.size w w') : Lib.IsBuilder T e B b bs w' := by
 have one : ∀ p, Lib.BuilderAt T e B b p bs w → Lib.BuilderAt T e B b p bs w' := fun p h => by
  have hl := h.lt
  obtain ⟨h0, v, hh, ho, hn⟩ := h
  exact ⟨h0, v, (hb.block b hl).trans hh, ownsRow_below2 ho hb, hn⟩
 exact h.imp (one _) (one _)
theorem strCells_bytes (s : ByteArray) : Lib.strCells s = Lib.byteCells s.data.toList := by simp [Lib.strCells, Lib.byteCells]
/-- A slice of bytes of the call's own making, to be read. -/
def BytesAt (w w' : World) (v : Value) (l : List UInt8) : Prop :=
 ∃ A c, v = .slice A l.length c ∧ l.length ≤ c ∧ (l = [] ∨ ∃ g cs t fr, A = some ⟨g, 0, none⟩ ∧ w.heap.size ≤ g ∧ w'.heap[g]? = some (.cells cs t fr) ∧ ∀ j, j < l.length → cs[j]? = some (.int .u8 ((l.getD j 0).toNat : Nat)))
def EncEnd (l : List Rec) (w : World) (e : Ending) (w' : World) : Prop :=
 ∃ v, e = .returned (.tuple #[v, .int .i64 (encOf l).2]) ∧ BytesAt w w' v (encOf l).1 ∧ Below w.heap.size w w'
theorem bytesAt_world (w w1 : World) (hb : Below w.heap.size w w1) (e : TypeId) (s : ByteArray) : BytesAt w (Lib.bytesWorld w1 e s) (.slice (some ⟨w1.heap.size, 0, none⟩) s.size (grownCap w1 s.size 0 e)) s.data.toList := by
 refine ⟨_, _, by rw [← Lib.size_eq], ?_, ?_⟩
 ·rw [← Lib.size_eq]; exact grownCap_ge _ _ _ _
 ·refine .inr ⟨w1.heap.size, _, _, _, rfl, hb.size, Lib.bytesWorld_at_new w1 e s, fun j hj => ?_⟩
  have h := Lib.bytesWorld_cell w1 e s j (by rw [Lib.size_eq]; exact hj)
  simp [World.cell?, Lib.bytesWorld_at_new] at h
  simpa using h
theorem chkL_ok {l : List Rec} (h : ∀ j, j < l.length → chkOf (l.getD j default).1 (l.getD j default).2 = 0) : chkL l = 0 := by
 induction l with
 | nil => rfl
 | cons r l ih =>
  have h0 := h 0 (by simp)
  simp only [List.getD_cons_zero] at h0
  rw [chkL, if_pos h0]
  exact ih fun j hj => by have := h (j + 1) (by simpa using hj); simpa using this
theorem chkL_bad {l : List Rec} {k : Nat} (hk : k < l.length) (h : ∀ j, j < k → chkOf (l.getD j default).1 (l.getD j default).2 = 0) (hb : chkOf (l.getD k default).1 (l.getD k default).2 ≠ 0) : chkL l = chkOf (l.getD k default).1 (l.getD k default).2 := by
 induction l generalizing k with
 | nil => simp at hk
 | cons r l ih =>
  cases k with
  | zero => simp only [List.getD_cons_zero] at hb ⊢; rw [chkL, if_neg hb]
  | succ k =>
   have h0 := h 0 (by omega)
   simp only [List.getD_cons_zero] at h0
   rw [chkL, if_pos h0]
   have := ih (k := k) (by simpa using hk) (fun j hj => by have := h (j + 1) (by omega); simpa using this) (by simpa using hb)
   simpa using this
theorem encL_snoc {l : List Rec} {k : Nat} (hk : k < l.length) : encL (l.take (k + 1)) = encL (l.take k) ++ (recT (l.getD k default).1 (l.getD k default).2).data.toList := by
 have e : l.take (k + 1) = l.take k ++ [l.getD k default] := by rw [List.take_succ_eq_append_getElem hk]; simp [hk]
 rw [e]
 simp [encL]
theorem lenOf_bounds (k v : ByteArray) (hk : k.size ≤ 281474976710656) (hv : v.size ≤ 281474976710656) : (k.size : Int) + v.size + 3 ≤ lenOf k v ∧ lenOf k v ≤ k.size + v.size + 25 := by
 have h := itoaS_le ((k.size : Int) + v.size + 3) (by omega) (by omega)
 simp only [lenOf]
 split <;> omega
theorem recT_le (k v : ByteArray) (hk : k.size ≤ 1000000) (hv : v.size ≤ 1000000) : (recT k v).size ≤ 2000100 := by
 have hb := lenOf_bounds k v (by omega) (by omega)
 have h := itoaS_le (lenOf k v) (by omega) (by omega)
 simp only [recT, ByteArray.size_append]
 show (itoaS (lenOf k v)).size + 1 + k.size + 1 + v.size + 1 ≤ 2000100
 omega
theorem encL_le {l : List Rec} {n : Nat} (h : ∀ r ∈ l, (recT r.1 r.2).size ≤ n) : (encL l).length ≤ l.length * n := by
 induction l with
 | nil => simp [encL]
 | cons r l ih =>
  have h0 := h r (by simp)
  have h1 := ih (fun x hx => h x (by simp [hx]))
  have e : encL (r :: l) = (recT r.1 r.2).data.toList ++ encL l := by simp [encL]
  rw [e, List.length_append, List.length_cons, Nat.add_mul, ← Lib.size_eq]
  omega
theorem add_run (a b c : ByteArray) (h : a ++ b = c) (hs : a.size + b.size ≤ 4611686018427387904) (wx : World) : (Op.stringOp .add a b).run Tryz.prog wx = .ok (.string c) wx := by
 subst h; exact run_string_add_sum wx _ _ (by omega)

set_option maxRecDepth 100000 in
set_option maxHeartbeats 4000000 in
theorem encode_any (hC : CAny) (l : List Rec) (A : Option Addr) (c : Nat) (w : World) (hr : RecC w A l) (hsz : ∀ r ∈ l, r.1.size ≤ 1000000 ∧ r.2.size ≤ 1000000) (he : EnvE w) :
  Calls Tryz.prog 26 #[.slice A l.length c] w (EncEnd l w) := by
 have HR := Lib.hid hr
 have HS := Lib.hid hsz
 have HE := Lib.hid he
 have HC : Hid CAny := hC
 clear hr hsz he hC
 by_cases h64 : 64 < l.length
 ·have hF : encOf l = ([], 2) := by simp [encOf, h64]
  have HF := Lib.hid hF
  clear hF
  go_enter Tryz.func26, Tryz.ntmps26
  go_wp2
  go_ret2
  exact ⟨_, by rw [HF.out]; rfl, by rw [HF.out]; exact ⟨_, _, rfl, by simp, .inl rfl⟩, Below.refl _ _⟩
 ·have h64i : l.length ≤ 64 := by omega
  have hB0 : Lib.IsBuilder BT 5 w.heap.size w.heap.size (Lib.byteCells []) (w.alloc (.cells #[.pointer none, .slice none 0 0] BT)) := by
   refine .inl ⟨Nat.le_refl _, .slice none 0 0, heap_alloc_new w _, ?_, ?_⟩
   ·exact ⟨rfl, .inl ⟨rfl, rfl⟩⟩
   ·simp [Value.ownBlock]
  have HB0 := Lib.hid hB0
  clear hB0
  go_enter Tryz.func26, Tryz.ntmps26
  go_wp2
  go_loopg [13] l.length (fun g i wr => ∃ k : Nat, k + g = l.length ∧ i = .int .i64 k ∧ Hid ((∀ j, j < k → chkOf (l.getD j default).1 (l.getD j default).2 = 0) ∧ Lib.IsBuilder BT 5 w.heap.size w.heap.size (Lib.byteCells (encL (l.take k))) wr) ∧ Below w.heap.size w wr)
  case atStart => exact ⟨0, by omega, rfl, ⟨by simp, HB0.out⟩, (Below.refl _ _).alloc (Nat.le_refl _) _⟩
  case round =>
   obtain ⟨k, hk, rfl, HI, hb⟩ := hrel
   cases gk with
   | zero =>
    obtain rfl : k = l.length := by omega
    obtain ⟨hok, hbd⟩ := HI
    rw [List.take_length] at hbd
    have hF : encOf l = (encL l, 0) := by simp [encOf, h64, chkL_ok hok]
    have HF := Lib.hid hF
    have HBD := Lib.hid hbd
    clear hok hbd hF
    have hcv := fun wx => Lib.run_convert_string_bytes (P := Tryz.prog) wx 9 32 5 ⟨(encL l).toArray⟩ Tryz.underlying9 Tryz.underlying32 Tryz.underlying5
    go_wp2_with (go_at_call 50; refine (Tryz.Builder_String_any w.heap.size w.heap.size (encL l) _ HBD.out hb.size).mono ?_; rintro e w2 ⟨rfl, hb2⟩)
    go_ret2
    exact ⟨_, by rw [HF.out]; rfl, by rw [HF.out]; exact bytesAt_world w _ (hb.trans hb2) _ _, below_next (hb.trans hb2) (below_bytes _ _)⟩
   | succ g =>
    have hkl : k < l.length := by omega
    obtain ⟨b, off, rfl, hlt, c0, c1⟩ := HR.out k hkl
    have hc0 := (hb.cell (p := ⟨b, off + k * 2, none⟩) hlt).trans c0
    have hc1 := (hb.cell (p := ⟨b, off + k * 2 + 1, none⟩) hlt).trans c1
    clear c0 c1
    obtain ⟨K1, V1, hrec⟩ : ∃ K1 V1, l.getD k default = (K1, V1) := ⟨_, _, rfl⟩
    rw [hrec] at hc0 hc1
    obtain ⟨z1, z2⟩ : K1.size ≤ 1000000 ∧ V1.size ≤ 1000000 := by
     have := HS.out (l.getD k default) (by simp [hkl])
     rw [hrec] at this
     exact this
    obtain ⟨hok, hbd⟩ := HI
    have HOK := Lib.hid hok
    have HBD := Lib.hid hbd
    have HREC := Lib.hid hrec
    clear hok hbd hrec
    obtain ⟨E, hE⟩ : ∃ E, chkOf K1 V1 = E := ⟨_, rfl⟩
    have HK := Lib.hid hE
    by_cases hE0 : E = 0
    ·subst hE0
     obtain ⟨LL, hLL⟩ : ∃ LL, lenOf K1 V1 = LL := ⟨_, rfl⟩
     obtain ⟨S0, hS0⟩ : ∃ S0, itoaS LL = S0 := ⟨_, rfl⟩
     obtain ⟨S1, hS1⟩ : ∃ S1, S0 ++ ⟨#[32]⟩ = S1 := ⟨_, rfl⟩
     obtain ⟨S2, hS2⟩ : ∃ S2, S1 ++ K1 = S2 := ⟨_, rfl⟩
     obtain ⟨S3, hS3⟩ : ∃ S3, S2 ++ ⟨#[61]⟩ = S3 := ⟨_, rfl⟩
     obtain ⟨S4, hS4⟩ : ∃ S4, S3 ++ V1 = S4 := ⟨_, rfl⟩
     obtain ⟨S5, hS5⟩ : ∃ S5, S4 ++ ⟨#[10]⟩ = S5 := ⟨_, rfl⟩
     have hL0 : 0 ≤ LL ∧ LL ≤ 2000100 := by
      rw [← hLL]; have := lenOf_bounds K1 V1 (by omega) (by omega); omega
     have q0 : S0.size ≤ 21 := by rw [← hS0]; exact itoaS_le _ (by omega) (by omega)
     have q1 : S1.size = S0.size + 1 := by rw [← hS1, ByteArray.size_append]; rfl
     have q2 : S2.size = S1.size + K1.size := by rw [← hS2, ByteArray.size_append]
     have q3 : S3.size = S2.size + 1 := by rw [← hS3, ByteArray.size_append]; rfl
     have q4 : S4.size = S3.size + V1.size := by rw [← hS4, ByteArray.size_append]
     have q5 : S5.size = S4.size + 1 := by rw [← hS5, ByteArray.size_append]; rfl
     have a1 := add_run S0 ⟨#[32]⟩ S1 hS1 (by show _ + 1 ≤ _; omega)
     have a2 := add_run S1 K1 S2 hS2 (by omega)
     have a3 := add_run S2 ⟨#[61]⟩ S3 hS3 (by show _ + 1 ≤ _; omega)
     have a4 := add_run S3 V1 S4 hS4 (by omega)
     have a5 := add_run S4 ⟨#[10]⟩ S5 hS5 (by show _ + 1 ≤ _; omega)
     have HT : Hid (recT K1 V1 = S5) := by show _ = _; rw [recT, hLL, hS0, hS1, hS2, hS3, hS4, hS5]
     have hlen : Hid ((Lib.byteCells (encL (l.take k))).length + S5.size ≤ 140737488355328) := by
      show _ ≤ _
      have := encL_le (l := l.take k) (n := 2000100) (fun r hr => recT_le r.1 r.2 (HS.out r (List.mem_of_mem_take hr)).1 (HS.out r (List.mem_of_mem_take hr)).2)
      rw [Lib.byteCells_length]
      have h2 : (l.take k).length ≤ 64 := by rw [List.length_take]; omega
      have h3 : (l.take k).length * 2000100 ≤ 64 * 2000100 := Nat.mul_le_mul_right _ h2
      omega
     have HS0 := Lib.hid hS0
     have HLL := Lib.hid hLL
     have HQ : Hid (LL ≤ 2000100 ∧ 0 ≤ LL) := ⟨hL0.2, hL0.1⟩
     clear hLL hS0 hS1 hS2 hS3 hS4 hS5 q0 q1 q2 q3 q4 q5 hE hL0
     go_wp2_with fail
     refine (check_any HC.out K1 V1 (by omega) (by omega) _).mono ?_
     rw [HK.out]
     rintro e w1 ⟨rfl, hb1⟩
     have r1 : Blk w1 wr.heap.size 66 #[.string K1, .string V1] := (Blk.new wr 66 #[.string K1, .string V1]).below hb1 (by simp)
     have B1 := below_next (hb.alloc hb.size (.cells #[.string K1, .string V1] 66)) hb1
     have HB1 := Lib.hid (builder_below (builder_below HBD.out ((Below.refl _ _).alloc (Nat.le_refl _) (.cells #[.string K1, .string V1] 66))) hb1)
     have hg1 : w.heap.size < wr.heap.size := by have := HBD.out; rcases this with h | h <;> exact h.lt
     generalize wr.heap.size = g1 at r1 hg1 ⊢
     clear hb1 hc0 hc1 HBD
     have r1c0 := r1.cell 0; have r1c1 := r1.cell 1
     go_wp2_with fail
     have r1d : Blk w1.drew g1 66 #[.string K1, .string V1] := r1.drew
     have B1d : Below w.heap.size w w1.drew := B1.drew
     clear r1c0 r1c1
     go_region_held3 (fun w' => w'.cell? ⟨g1, 0, none⟩ = some (.string K1) ∧ w'.cell? ⟨g1, 1, none⟩ = some (.string V1)) (exact ⟨Blk.cell (cs := #[.string K1, .string V1]) (by assumption) 0, Blk.cell (cs := #[.string K1, .string V1]) (by assumption) 1⟩) (first | (go_at_call 49; refine (length_any K1 V1 (by omega) (by omega) _ (HE.out.env.below B1d)).mono ?_; rw [HLL.out]; rintro e w2 ⟨rfl, hb2⟩; have r2 := r1d.below hb2 r1d.lt; have B2 := below_next B1d hb2; have HB2 := Lib.hid (builder_below (w := w1.drew) HB1.out hb2)) | (go_at_call 48; refine (itoaS_any LL (by have := HQ.out; omega) (by have := HQ.out; omega) _ (HE.out.env.below B2) S0 HS0.out).mono ?_; rintro e w3 ⟨rfl, hb3⟩; have r3 := r2.below hb3 r2.lt; have B3 := below_next B2 hb3; have HB3 := Lib.hid (builder_below HB2.out hb3)) | (go_at_call 47; refine (writeString_any w.heap.size w.heap.size _ S5 _ HB3.out hlen.out B3.size).mono ?_; rintro e w4 ⟨rfl, ⟨hB4, hb4⟩, hoth⟩; have B4 := B3.trans hb4; have r4 := hoth g1 _ _ (by omega) (by decide) r3; clear hoth; have HB4 := Lib.hid hB4; clear hB4))
     go_wp2_with fail
     go_roundg g
     case measure => omega
     case rel =>
      refine ⟨k + 1, by omega, rfl, ⟨?_, ?_⟩, B4⟩
      ·intro j hj
       rcases Nat.lt_or_ge j k with h | h
       ·exact HOK.out j h
       ·obtain rfl : j = k := by omega
        rw [HREC.out]; exact HK.out
      ·rw [encL_snoc (by omega), HREC.out, HT.out]
       have := HB4.out
       rw [strCells_bytes] at this
       simp only [Lib.byteCells, List.map_append] at this ⊢
       exact .inr this
    ·have hq : (E == 0) = false := by simpa using hE0
     have hF : encOf l = ([], E) := by
      have hb0 : chkOf (l.getD k default).1 (l.getD k default).2 = E := by rw [HREC.out]; exact hE
      have := chkL_bad hkl HOK.out (by rw [hb0]; exact hE0)
      rw [hb0] at this
      simp [encOf, h64, this, hE0]
     have HF := Lib.hid hF
     clear hF hE hE0
     go_wp2_with (go_at_call 46; refine (check_any HC.out K1 V1 (by omega) (by omega) _).mono ?_; rw [HK.out]; rintro e w1 ⟨rfl, hb1⟩; have B1 := below_next (hb.alloc hb.size (.cells #[.string K1, .string V1] 66)) hb1; clear hb1)
     go_ret2
     exact ⟨_, by rw [HF.out]; rfl, by rw [HF.out]; exact ⟨_, _, rfl, by simp, .inl rfl⟩, B1⟩
end Go.Proofs.YtpbpfngichfgeaaGreatDoor

namespace Go.Proofs.YtpbpfngichfgeaaGreatDoor

def lenN (n : Nat) : Nat := let d := (Lib.itoa (n : Int)).length; if d < (Lib.itoa ((n + d : Nat) : Int)).length then n + (d + 1) else n + d
/-- What is checked of each length that a record's text may have. -/
def lenOk (n : Nat) : Bool :=
  let L := lenN n
  let t := Lib.itoa (L : Int)
  decide (t.length + n = L) && (Lib.atoi t == some (L : Int)) && t.all (fun b => 48 ≤ b.toNat && b.toNat ≤ 57) && decide (t.length ≤ 5) && decide (1 ≤ t.length) && (t.foldl (fun (a : Nat) b => 10 * a + (b.toNat - 48)) 0 == L)
theorem lenOk_all : (List.range 4100).all lenOk = true := by decide +kernel
theorem lenOk_at {n : Nat} (h : n < 4100) : lenOk n = true := List.all_eq_true.1 lenOk_all n (List.mem_range.2 h)
end Go.Proofs.YtpbpfngichfgeaaGreatDoor

namespace Go.Proofs.YtpbpfngichfgeaaGreatDoor
set_option linter.unusedVariables false
set_option linter.unusedSimpArgs false

theorem lenOf_nat (k v : ByteArray) : lenOf k v = (lenN (k.size + v.size + 3) : Nat) := by
  have e : ((k.size : Int) + v.size + 3) = ((k.size + v.size + 3 : Nat) : Int) := by omega
  simp only [lenOf, lenN, itoaS_size, e]
  have e2 : (((k.size + v.size + 3 : Nat) : Int) + ((Lib.itoa ((k.size + v.size + 3 : Nat) : Int)).length : Int)) = ((k.size + v.size + 3 + (Lib.itoa ((k.size + v.size + 3 : Nat) : Int)).length : Nat) : Int) := by omega
  rw [e2]
  by_cases h : (Lib.itoa ((k.size + v.size + 3 : Nat) : Int)).length < (Lib.itoa ((k.size + v.size + 3 + (Lib.itoa ((k.size + v.size + 3 : Nat) : Int)).length : Nat) : Int)).length
  · rw [if_pos h, if_pos (by omega)]; omega
  · rw [if_neg h, if_neg (by omega)]

theorem indexByte_at {a r : List UInt8} {c : UInt8} (h : ∀ b ∈ a, b ≠ c) : Lib.indexByte (a ++ c :: r) c = a.length := by
  induction a with
  | nil => simp [Lib.indexByte]
  | cons b a ih =>
    have hb : (b == c) = false := by rw [beq_eq_false_iff_ne]; exact h b (by simp)
    have := ih (fun x hx => h x (by simp [hx]))
    have h2 : ((a.length : Int) == -1) = false := by rw [beq_eq_false_iff_ne]; omega
    simp only [List.cons_append, Lib.indexByte, hb, this, h2, Bool.false_eq_true, if_false, List.length_cons]
    omega
theorem indexByte_not {a : List UInt8} {c : UInt8} (h : ∀ b ∈ a, b ≠ c) : Lib.indexByte a c = -1 := by
  induction a with
  | nil => rfl
  | cons b a ih =>
    have hb : (b == c) = false := by rw [beq_eq_false_iff_ne]; exact h b (by simp)
    have := ih (fun x hx => h x (by simp [hx]))
    simp [Lib.indexByte, hb, this]
theorem cut_at {a r : List UInt8} {c : UInt8} (h : ∀ b ∈ a, b ≠ c) : Lib.cut (a ++ c :: r) [c] = (a, r, true) := by
  unfold Lib.cut
  rw [Lib.index_one, indexByte_at h, if_pos (by omega)]
  simp
theorem cut_not {a : List UInt8} {c : UInt8} (h : ∀ b ∈ a, b ≠ c) : Lib.cut a [c] = (a, [], false) := by
  unfold Lib.cut
  rw [Lib.index_one, indexByte_not h, if_neg (by omega)]

structure LenFacts (n : Nat) (L : Nat) : Prop where
  len : (Lib.itoa (L : Int)).length + n = L
  atoi : Lib.atoi (Lib.itoa (L : Int)) = some (L : Int)
  dig : ∀ b ∈ Lib.itoa (L : Int), 48 ≤ b.toNat ∧ b.toNat ≤ 57
  le : (Lib.itoa (L : Int)).length ≤ 5
  pos : 1 ≤ (Lib.itoa (L : Int)).length
  val : (Lib.itoa (L : Int)).foldl (fun (a : Nat) b => 10 * a + (b.toNat - 48)) 0 = L
theorem lenFacts {n : Nat} (h : n < 4100) : LenFacts n (lenN n) := by
  have := lenOk_at h
  simp only [lenOk, Bool.and_eq_true, decide_eq_true_eq, beq_iff_eq, List.all_eq_true] at this
  obtain ⟨⟨⟨⟨⟨a, b⟩, c⟩, d⟩, e⟩, f⟩ := this
  exact ⟨a, b, fun x hx => by simpa using c x hx, d, e, f⟩
theorem chk_zero {k v : ByteArray} (h : chkOf k v = 0) : k ≠ ⟨#[]⟩ ∧ badKey k = false ∧ k.size + v.size ≤ 4096 := by
  unfold chkOf at h
  split at h
  · omega
  · split at h
    · omega
    · split at h
      · omega
      · rename_i a b c
        exact ⟨a, by simpa using b, by omega⟩
theorem badKey_not {k : ByteArray} (h : badKey k = false) : ∀ b ∈ k.data.toList, b ≠ 61 ∧ b ≠ 0 ∧ b ≠ 10 := by
  intro b hb
  simp only [badKey, List.any_eq_false] at h
  have := h b hb
  simpa [and_assoc] using this

theorem recT_list (k v : ByteArray) (n : Nat) (hn : n = k.size + v.size + 3) : (recT k v).data.toList = Lib.itoa (lenN n : Nat) ++ 32 :: (k.data.toList ++ 61 :: (v.data.toList ++ [10])) := by
  subst hn
  simp only [recT, itoaS, lenOf_nat, ByteArray.data_append, Array.toList_append]
  simp
theorem bytes_ext {a b : ByteArray} (h : a.data.toList = b.data.toList) : a = b := by
  obtain ⟨⟨x⟩⟩ := a
  obtain ⟨⟨y⟩⟩ := b
  simp at h
  rw [h]
end Go.Proofs.YtpbpfngichfgeaaGreatDoor

namespace Go.Proofs.YtpbpfngichfgeaaGreatDoor
set_option linter.unusedVariables false
set_option linter.unusedSimpArgs false
open Go.RowKit Go.Lib

abbrev C3 : ByteArray := ⟨#[61, 0, 10]⟩
theorem valid_any (r : Int) (h : Utf8.valid r = true) (w : World) : Calls Tryz.prog 134 #[.int .i32 r] w fun e w' => e = .returned (.bool true) ∧ w = w' := by
 have hr : (0 ≤ r ∧ r < 55296) ∨ (57343 < r ∧ r ≤ 1114111) := by
  simp [Utf8.valid] at h
  omega
 rcases hr with ⟨h0, h1⟩ | ⟨h0, h1⟩
 ·go_enter Tryz.func134, Tryz.ntmps134
  go_wp2
  go_ret
  exact ⟨rfl, rfl⟩
 ·have g0 : (0 : Int) ≤ r := by omega
  have g1 : ¬ r < 55296 := by omega
  go_enter Tryz.func134, Tryz.ntmps134
  go_wp2
  go_ret
  exact ⟨rfl, rfl⟩

theorem below_iter (w : World) (s : ByteArray) (pos : Nat) : Below w.heap.size w (w.iter s pos) := by
 unfold World.iter
 exact (Below.refl _ _).alloc (Nat.le_refl _) _
theorem strings_IndexByte_miss (s : ByteArray) (c : UInt8) (h : c ∉ s.data.toList) (w : World) : Calls Tryz.prog 133 #[.string s, .int .u8 (c.toNat : Nat)] w fun e w' => e = .returned (.int .i64 (-1)) ∧ w' = w := by
 have hm : ∀ l : List UInt8, c ∉ l → Lib.indexByte l c = -1 := by
  intro l hl
  induction l with
  | nil => rfl
  | cons b l ih =>
   have hb : (b == c) = false := by rw [beq_eq_false_iff_ne]; rintro rfl; simp at hl
   have := ih (fun h => hl (by simp [h]))
   simp [Lib.indexByte, hb, this]
 have h2 := Tryz.strings_IndexByte s (c.toNat : Nat) w
 have e : ((c.toNat : Nat) : Int).toNat.toUInt8 = c := by simp
 rw [e, hm _ h] at h2
 exact h2
set_option maxRecDepth 100000 in
set_option maxHeartbeats 2000000 in
theorem indexRune_high (r : Int) (h0 : 128 ≤ r) (hv : Utf8.valid r = true) (w : World) : Calls Tryz.prog 115 #[.string C3, .int .i32 r] w (Gives (.int .i64 (-1)) w) := by
 have g1 : ¬ r < 128 := by omega
 have g2 : (0 : Int) ≤ r := by omega
 by_cases he : r = 65533
 ·subst he
  go_enter Tryz.func115, Tryz.ntmps115
  go_wp2
  have n0 := fun ty => run_next_ascii (P := Tryz.prog) w C3 0 ty (by decide) (by decide)
  have n1 := fun ty => run_next_ascii (P := Tryz.prog) w C3 1 ty (by decide) (by decide)
  have n2 := fun ty => run_next_ascii (P := Tryz.prog) w C3 2 ty (by decide) (by decide)
  have n3 := fun ty => run_next_end (P := Tryz.prog) w C3 3 ty (by decide)
  refine wp_loop_rounds 5 ?_
  rw [rounds_succ]
  go_wp2
  rw [rounds_succ]
  go_wp2
  rw [rounds_succ]
  go_wp2
  rw [rounds_succ]
  go_wp2
  go_ret
  exact ⟨rfl, below_iter _ _ _⟩
 ·have hne : (r == 65533) = false := by simpa using he
  obtain ⟨S, hS⟩ : ∃ S, Utf8.encode r = S := ⟨_, rfl⟩
  obtain ⟨e1, e2, e3⟩ := encode_facts r hv h0
  rw [hS] at e1 e2 e3
  have hcv : ∀ wx, (convert 21 9 (.int .i32 r)).run Tryz.prog wx = .ok (.string S) wx := fun wx => by rw [run_convert_int_string wx _ _ _ _ (by rw [Tryz.underlying21]; rfl) Tryz.underlying9, hS]
  have hlast := e3 (by omega)
  obtain ⟨n, hn⟩ : ∃ n : Nat, S.size = n + 1 := ⟨S.size - 1, by omega⟩
  obtain ⟨c, hc⟩ : ∃ c : UInt8, S[S.size - 1]'(by omega) = c := ⟨_, rfl⟩
  rw [hc] at hlast
  have hix : ∀ wx, (Instr.index 9 (.string S) (.int .i64 (n : Nat))).run Tryz.prog wx = .ok (.int .u8 (c.toNat : Nat)) wx := fun wx => by
   rw [run_index_string wx _ S .i64 _ Tryz.underlying9, dif_pos ⟨by omega, by omega⟩, ← hc]
   congr 3
   simp [hn]
  have hcu : c.toNat < 256 := c.toNat_lt
  have HV := Lib.hid hv
  have hn3 : n = 1 ∨ n = 2 ∨ n = 3 := by omega
  clear hS e3 hv he hix
  rcases hn3 with rfl | rfl | rfl
  ·have hk : 1 < S.size := by omega
   have hck : S[1]'hk = c := by rw [← hc]; congr 1; omega
   have hq : ((0 : Int) != ((S[1]'hk).toNat : Int)) = true := by rw [hck, bne_iff_ne]; omega
   have hC : ∀ wx, (Instr.index 9 (.string C3) (.int .i64 1)).run Tryz.prog wx = .ok (.int .u8 0) wx := fun _ => by kernel_rfl
   have hw1 : IntKind.i64.wrap 2 = 2 := by decide
   have hw1b : IntKind.i64.wrap (((1 : Nat) : Int) + 1) = 2 := by decide
   have hw1c : IntKind.i64.wrap (((1 : Nat) : Int) + 1) = 2 := by decide
   have hsl : ∀ wx, (Instr.slice 9 (.string C3) (some (.int .i64 2)) none none).run Tryz.prog wx = .ok (.string ⟨#[10]⟩) wx := fun _ => by kernel_rfl
   have hib := strings_IndexByte_miss ⟨#[10]⟩ (S[1]'hk) (by rw [hck]; intro h; simp at h; rw [h] at hlast; simp at hlast)
   clear hck hc hlast hcu e1
   go_enter Tryz.func115, Tryz.ntmps115
   go_wp2_with (go_at_call 134; refine (valid_any r HV.out _).mono ?_; rintro e w' ⟨rfl, rfl⟩)
   go_step3
   go_wp2
   refine wp_loop_rounds 2 ?_
   rw [rounds_succ]
   go_wp2
   go_step3
   go_wp2
   go_quiet (fail)
   generalize hwq : World.drewN w _ = wq
   have hbq : Below w.heap.size w wq := by rw [← hwq]; exact below_drewN' (Below.refl _ _) _
   clear hwq
   go_wp2
   go_region_held3 (fun w' => Hid (wq.heap.size ≤ w'.heap.size)) (exact (show wq.heap.size ≤ _ from Nat.le_refl _)) (first | (go_at_call 133; refine (hib _).mono ?_; rintro e w' ⟨rfl, rfl⟩))
   all_goals (go_wp2; (try rw [Exit.noGoto_ret]); go_ret; exact ⟨rfl, by (repeat' (first | assumption | refine Below.drew ?_))⟩)
  ·have hk : 2 < S.size := by omega
   have hck : S[2]'hk = c := by rw [← hc]; congr 1; omega
   have hq : ((10 : Int) != ((S[2]'hk).toNat : Int)) = true := by rw [hck, bne_iff_ne]; omega
   have hC : ∀ wx, (Instr.index 9 (.string C3) (.int .i64 2)).run Tryz.prog wx = .ok (.int .u8 10) wx := fun _ => by kernel_rfl
   have hw2 : IntKind.i64.wrap 3 = 3 := by decide
   have hw2b : IntKind.i64.wrap (((1 : Nat) : Int) + 2) = 3 := by decide
   have hw2c : IntKind.i64.wrap (((2 : Nat) : Int) + 1) = 3 := by decide
   have hsl : ∀ wx, (Instr.slice 9 (.string C3) (some (.int .i64 3)) none none).run Tryz.prog wx = .ok (.string ⟨#[]⟩) wx := fun _ => by kernel_rfl
   have hib := strings_IndexByte_miss ⟨#[]⟩ (S[2]'hk) (by rw [hck]; simp)
   clear hck hc hlast hcu e1
   go_enter Tryz.func115, Tryz.ntmps115
   go_wp2_with (go_at_call 134; refine (valid_any r HV.out _).mono ?_; rintro e w' ⟨rfl, rfl⟩)
   go_step3
   go_wp2
   refine wp_loop_rounds 2 ?_
   rw [rounds_succ]
   go_wp2
   go_step3
   go_wp2
   go_quiet (fail)
   generalize hwq : World.drewN w _ = wq
   have hbq : Below w.heap.size w wq := by rw [← hwq]; exact below_drewN' (Below.refl _ _) _
   clear hwq
   go_wp2
   go_region_held3 (fun w' => Hid (wq.heap.size ≤ w'.heap.size)) (exact (show wq.heap.size ≤ _ from Nat.le_refl _)) (first | (go_at_call 133; refine (hib _).mono ?_; rintro e w' ⟨rfl, rfl⟩))
   all_goals (go_wp2; (try rw [Exit.noGoto_ret]); go_ret; exact ⟨rfl, by (repeat' (first | assumption | refine Below.drew ?_))⟩)
  ·clear hc hlast hcu
   go_enter Tryz.func115, Tryz.ntmps115
   go_wp2_with (go_at_call 134; refine (valid_any r HV.out _).mono ?_; rintro e w' ⟨rfl, rfl⟩)
   go_step3
   go_wp2
   refine wp_loop_rounds 2 ?_
   rw [rounds_succ]
   go_wp2
   (try rw [Exit.noGoto_ret])
   go_ret
   exact ⟨rfl, Below.refl _ _⟩

theorem noAny_more {l chars : List UInt8} {i k : Nat} (h : Lib.NoAny l chars i) (hk : ∀ j, i ≤ j → j < i + k → ∃ x, l[j]? = some x ∧ chars.contains x = false) : Lib.NoAny l chars (i + k) := by
 induction k with
 | zero => exact h
 | succ k ih =>
  obtain ⟨x, hx, hc⟩ := hk (i + k) (by omega) (by omega)
  exact (ih fun j h1 h2 => hk j h1 (by omega)).succ hx hc
theorem high_not (x : UInt8) (h : 128 ≤ x.toNat) : ([61, 0, 10] : List UInt8).contains x = false := by
 simp only [List.contains_eq_any_beq, List.any_cons, List.any_nil, Bool.or_false, Bool.or_eq_false_iff, beq_eq_false_iff_ne]
 refine ⟨?_, ?_, ?_⟩ <;> (rintro rfl; simp at h)
theorem decode_high_facts (s : ByteArray) (i : Nat) (h : i < s.size) (ha : 128 ≤ (s[i]'h).toNat) :
  ∃ r wd : Nat, Utf8.decode s i = (r, wd) ∧ 128 ≤ r ∧ Utf8.valid (r : Int) = true ∧ 1 ≤ wd ∧ i + wd ≤ s.size ∧ ∀ j, i ≤ j → j < i + wd → ∃ x, s.data.toList[j]? = some x ∧ ([61, 0, 10] : List UInt8).contains x = false := by
 obtain ⟨h1, h2⟩ := decode_high s i h ha
 have hat := Lib.decode_at s i
 have hget : ∀ k, i + k < s.size → s.data.toList[i + k]? = some (s.get! (i + k)) := fun k hk => by
  rw [Lib.data_getElem? s (i + k) hk]
  simp [ByteArray.get!, getElem!_pos, hk]
  rfl
 have hb0 : (s.get! i).toNat < 256 := (s.get! i).toNat_lt
 have hv := Lib.decodeN_valid (s.size - i) (s.get! i).toNat (s.get! (i + 1)).toNat (s.get! (i + 2)).toNat (s.get! (i + 3)).toNat hb0
 have hc := Lib.decodeN_conts (s.size - i) (s.get! i).toNat (s.get! (i + 1)).toNat (s.get! (i + 2)).toNat (s.get! (i + 3)).toNat
 rw [← hat] at hv hc
 obtain ⟨r, wd, hr⟩ : ∃ r wd, Utf8.decode s i = (r, wd) := ⟨_, _, rfl⟩
 rw [hr] at h1 h2 hv hc
 simp only at h1 h2 hv hc
 have c0 := hget 0 (by omega)
 have e0 : s.get! (i + 0) = s[i]'h := by simp [ByteArray.get!, getElem!_pos, h]; rfl
 refine ⟨r, wd, hr, h1, ?_, h2, ?_, ?_⟩
 ·simp [Utf8.valid]; omega
 ·obtain ⟨a, b, c, d⟩ := hc; omega
 ·intro j j0 j1
  obtain ⟨a, b, c, d⟩ := hc
  obtain ⟨k, rfl⟩ : ∃ k, j = i + k := ⟨j - i, by omega⟩
  refine ⟨_, hget k (by omega), high_not _ ?_⟩
  rcases (by omega : k = 0 ∨ k = 1 ∨ k = 2 ∨ k = 3) with rfl | rfl | rfl | rfl
  ·rw [e0]; exact ha
  ·have := (a (by omega)).1; omega
  ·have := (b (by omega)).1; omega
  ·have := (c (by omega)).1; omega

set_option maxRecDepth 100000 in
set_option maxHeartbeats 4000000 in
theorem indexAny_any (s : ByteArray) (hs : s.size < 4294967281) (w : World) : Calls Tryz.prog 103 #[.string s, .string C3] w (Gives (.int .i64 (Lib.indexAny s.data.toList [61, 0, 10])) w) := by
 rcases Nat.lt_or_ge 8 s.size with h8 | h8
 ·have h116 : (Tryz.prog.info? 204).map (fun i => (i.zero, i.size)) = some (some (.agg (Array.replicate 256 (.bool false))), 256) := by kernel_rfl
  refine (Tryz.strings_IndexAny_long (zero_of_info h116).1 s C3 w (by decide) h8 hs (by decide) (fun j b hb => ?_)).mono fun e w' ⟨a, b⟩ => ⟨a, by subst b; exact ((Below.refl _ _).alloc (Nat.le_refl _) _).alloc (by simp) _⟩
  have : b ∈ ([61, 0, 10] : List UInt8) := List.mem_of_getElem? hb
  simp at this
  rcases this with rfl | rfl | rfl <;> decide
 ·have h8z : decide ((8 : Int) < (s.size : Int)) = false := decide_eq_false (by omega)
  go_enter Tryz.func103, Tryz.ntmps103
  go_wp2_with (go_at_call 116; refine (Tryz.strings_shouldUseASCIISet _ _).mono ?_; rintro e w' ⟨rfl, hw⟩; rw [hw, h8z])
  go_loopg [9, 10] s.size (fun g _ _ wx => ∃ i : Nat, i ≤ s.size ∧ s.size ≤ i + g ∧ wx.heap[w.heap.size]? = some (.stringIter s i) ∧ Below w.heap.size w wx ∧ Hid (Lib.NoAny s.data.toList [61, 0, 10] i))
  case atStart => exact ⟨0, by omega, by omega, World.iter_heap w s 0, below_iter _ _ _, Lib.NoAny.zero _ _⟩
  case round =>
   obtain ⟨i, hi0, hig, hit, hbx, HN⟩ := hrel
   have HIT := Lib.hid hit
   by_cases hend : i = s.size
   ·subst hend
    have hnx := fun ty => run_next_end_at (P := Tryz.prog) _ w.heap.size s s.size ty hit (by omega)
    clear hit
    go_wp2
    go_ret
    exact ⟨by rw [Lib.indexAny_none (by rw [← Lib.size_eq]; exact HN.out)]; rfl, hbx⟩
   ·have hi : i < s.size := by omega
    cases gk with
    | zero => omega
    | succ g =>
     obtain ⟨x, hx⟩ : ∃ x : UInt8, s[i]'hi = x := ⟨_, rfl⟩
     have hxl : s.data.toList[i]? = some x := by rw [← hx]; exact Lib.data_getElem? s i hi
     by_cases hx128 : x.toNat < 128
     ·have hnx := fun ty => run_next_ascii_at (P := Tryz.prog) _ w.heap.size s i ty hit hi (by rw [hx]; exact hx128)
      rw [hx] at hnx
      have Hx := Lib.hid hxl
      clear hxl hx hit
      have hcon := Lib.contains_iff_indexByte [61, 0, 10] x
      have hback : ((x.toNat : Int)).toNat.toUInt8 = x := by simp
      cases hin : ([61, 0, 10] : List UInt8).contains x
      ·rw [hin] at hcon
       have hlt : ¬ ((0 : Int) ≤ Lib.indexByte [61, 0, 10] x) := of_decide_eq_false hcon.symm
       have HIN := Lib.hid hin
       clear hcon hin
       go_wp2_with (go_at_call 115; refine (Tryz.strings_IndexRune_ascii _ _ _ (by omega) (by omega)).mono ?_; rintro e w' ⟨rfl, hw⟩; rw [hw, hback])
       go_roundg g
       case measure => omega
       case rel => exact ⟨i + 1, by omega, by omega, iterAt_heap _ _ _ _ _ HIT.out, below_iterAt hbx (Nat.le_refl _) _ _, HN.out.succ Hx.out HIN.out⟩
      ·rw [hin] at hcon
       have hge : (0 : Int) ≤ Lib.indexByte [61, 0, 10] x := of_decide_eq_true hcon.symm
       have HIN := Lib.hid hin
       clear hcon hin
       go_wp2_with (go_at_call 115; refine (Tryz.strings_IndexRune_ascii _ _ _ (by omega) (by omega)).mono ?_; rintro e w' ⟨rfl, hw⟩; rw [hw, hback])
       go_ret
       exact ⟨by rw [Lib.indexAny_hit HN.out Hx.out HIN.out]; rfl, below_iterAt hbx (Nat.le_refl _) _ _⟩
     ·obtain ⟨r, wd, hd, d0, d1, d2, d3, d4⟩ := decode_high_facts s i hi (by rw [hx]; omega)
      have hnx := fun ty => run_next_any_at (P := Tryz.prog) _ w.heap.size s i ty hit hi
      rw [hd] at hnx
      have HV := Lib.hid d1
      have HN4 : Hid (Lib.NoAny s.data.toList [61, 0, 10] (i + wd)) := noAny_more HN.out d4
      clear hd d1 d4 hx hxl hx128 hit
      go_wp2_with (go_at_call 115; refine (indexRune_high (r : Int) (by omega) HV.out _).mono ?_; rintro e w2 ⟨rfl, hb2⟩; have B2 := below_next (below_iterAt hbx (Nat.le_refl _) s (i + wd)) hb2; have h2 := (hb2.block _ (by rw [iterAt_size]; exact (Array.getElem?_eq_some_iff.1 HIT.out).1)).trans (iterAt_heap _ _ _ _ (i + wd) HIT.out); have H2 := Lib.hid h2; clear h2)
      go_roundg g
      case measure => omega
      case rel => exact ⟨i + wd, by omega, by omega, H2.out, B2, HN4⟩

set_option maxRecDepth 100000 in
theorem cany_any : CAny := by
 intro s w hs
 obtain ⟨q, hq⟩ : ∃ q, Lib.indexAny s.data.toList [61, 0, 10] = q := ⟨_, rfl⟩
 have hk : badKey s = decide (0 ≤ q) := by
  rw [← hq]
  unfold badKey
  generalize s.data.toList = l
  induction l with
  | nil => rfl
  | cons b l ih =>
   have hge := Lib.indexAny_ge [61, 0, 10] l
   have hcb : ([61, 0, 10] : List UInt8).contains b = (b == 61 || b == 0 || b == 10) := by
    simp only [List.contains_eq_any_beq, List.any_cons, List.any_nil, Bool.or_false, Bool.or_assoc]
   rw [List.any_cons, ih, Lib.indexAny, hcb]
   cases (b == 61 || b == 0 || b == 10)
   ·simp only [Bool.false_or, Bool.false_eq_true, if_false]
    by_cases h : Lib.indexAny l [61, 0, 10] = -1
    ·simp [h]
    ·simp [h]; omega
   ·simp
 rw [hk]
 have HC : Hid (∀ w, Calls Tryz.prog 103 #[.string s, .string C3] w (Gives (.int .i64 q) w)) := fun w => hq ▸ indexAny_any s hs w
 clear hq hk
 by_cases h0 : 0 ≤ q
 ·have hd : decide (0 ≤ q) = true := decide_eq_true h0
  rw [hd]
  go_enter Tryz.func78, Tryz.ntmps78
  go_wp2_with (go_at_call 103; refine (HC.out _).mono ?_; rintro e w1 ⟨rfl, hb1⟩)
  go_ret
  exact ⟨rfl, hb1⟩
 ·have hd : decide (0 ≤ q) = false := decide_eq_false h0
  rw [hd]
  go_enter Tryz.func78, Tryz.ntmps78
  go_wp2_with (go_at_call 103; refine (HC.out _).mono ?_; rintro e w1 ⟨rfl, hb1⟩)
  go_ret
  exact ⟨rfl, hb1⟩
end Go.Proofs.YtpbpfngichfgeaaGreatDoor
