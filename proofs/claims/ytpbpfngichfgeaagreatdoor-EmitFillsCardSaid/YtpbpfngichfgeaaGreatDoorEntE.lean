/-
  emit.Entry by a contract: what it answers, and the row of bytes.
-/
import Derived.Test.YtpbpfngichfgeaaGreatDoorPemR
import Derived.Test.YtpbpfngichfgeaaGreatDoorRegG
namespace Go.Proofs.YtpbpfngichfgeaaGreatDoor.PEmit
set_option linter.unusedVariables false
set_option linter.unusedSimpArgs false
set_option linter.unusedSectionVars false
set_option linter.unnecessarySimpa false
open Go Go.RowKit Go.Proofs.YtpbpfngichfgeaaGreatDoor Go.Proofs.YtpbpfngichfgeaaGreatDoorW.PrintWords Go.Proofs.YtpbpfngichfgeaaGreatDoorW.PrintLast Go.Proofs.YtpbpfngichfgeaaGreatDoorW.PrintMore

/-- append(v, row...) where the order is fixed. -/
theorem R_rowsN {ops : Array Oper} {rest : List Oper} {o : Oper} {a : Act} {Q : Exit → Act → World → Prop} {w0 W : World} (base : Nat) (hw : o.guard = none) (s x : Operand)
    (ho : o.op = .call { callee := .builtin .append, args := #[s, x], argTypes := #[32, 32] })
    (v : Value) (xs ys : List Int) (A : Option Addr) (m c : Nat) (hs : a.eval s = v) (hx : a.eval x = .slice A m c)
    (HO : RU W base v xs) (HR : Kd.C (Kd.int .u8) W A m ys) (HB : Below base w0 W) (hbase : base ≤ W.heap.size) (hl : (xs.length + m) * 1 ≤ 140737488355328)
    (h : ∀ v1 w1, RU w1 base v1 (xs ++ ys) → Below base w0 w1 → wpList Tryz.prog ops Q rest (a.put o.dst v1) w1) : wpList Tryz.prog ops Q (o :: rest) a W :=
  Kd.R_append_rows (Kd.int .u8) (Rr := (Kd.int .u8).K W) (w0 := w0) (W := W) base hw s x 32 5 _ 1 ho Tryz.underlying32 infoU8 (by rfl) (by decide) (by decide) v xs ys A m c (fun _ => True) (fun _ => False) hs hx HO HR (fun _ _ h => h) (fun _ hk => hk.elim) (fun _ _ => trivial) HB hbase hl (fun v1 w1 h1 h2 _ _ => h v1 w1 h1 h2)
section
variable {p l u g : ByteArray} {kd md uid gid mt sz : Int}
theorem ent_f_bad (hchk : emit_Check.f 3 p l kd md uid gid mt sz u g = some 90) : emit_Entry.f 3 p l kd md uid gid mt sz u g = some ([], 90) := by
  unfold emit_Entry.f
  rw [hchk, Option.bind_some, if_neg (by decide)]
variable {z1 z2 z3 z4 z5 : ByteArray} {typ z6 z7 z8 z9 : Int} {R : List KV} (hchk : emit_Check.f 3 p l kd md uid gid mt sz u g = some 0) (hsplit : emit_split.f p l kd md uid gid mt sz u g = some (0, z1, z2, z3, z4, z5, typ, md, z6, z7, z8, z9, R))
include hchk hsplit
theorem ent_f_one {H : List Int} (hR : R = []) (hH : head_Encode.f 0 z1 z2 z3 z4 z5 typ md z6 z7 z8 z9 = some (H, 0)) (hl : H.length = 512) : emit_Entry.f 3 p l kd md uid gid mt sz u g = some (H, 0) := by
  unfold emit_Entry.f
  rw [hchk, Option.bind_some, if_pos rfl, hsplit, Option.bind_some]
  simp only
  rw [if_neg (by rw [hR]; decide), hH, Option.bind_some, if_pos rfl, if_pos (by simp [hl])]
  rfl
theorem ent_f_err {x : List Int} {c : Int} (hR : R ≠ []) (hE : pax_Encode.f R = some (x, c)) (hc : c ≠ 0) : emit_Entry.f 3 p l kd md uid gid mt sz u g = some ([], c) := by
  have hpos : (R.length : Int) > 0 := by
    have : R.length ≠ 0 := fun h => hR (List.length_eq_zero_iff.1 h)
    omega
  unfold emit_Entry.f
  rw [hchk, Option.bind_some, if_pos rfl, hsplit, Option.bind_some]
  simp only
  rw [if_pos hpos, hE, Option.bind_some]
  simp only
  rw [if_neg hc]
theorem ent_f_two {H x : List Int} {n : Nat} (hR : R ≠ []) (hE : pax_Encode.f R = some (x, 0)) (hx : x.length = n) (hn : n ≤ 20000000) (hP : PaxFits (n : Int)) (hH : head_Encode.f 0 z1 z2 z3 z4 z5 typ md z6 z7 z8 z9 = some (H, 0)) (hl : H.length = 512) :
    emit_Entry.f 3 p l kd md uid gid mt sz u g = some (paxH n ++ x ++ List.replicate ((512 - n % 512) % 512) 0 ++ H, 0) := by
  have hpos : (R.length : Int) > 0 := by
    have : R.length ≠ 0 := fun h => hR (List.length_eq_zero_iff.1 h)
    omega
  have hPl := hdrL_length hP
  have hP2 := head_some hP
  have hpad : (512 - n % 512) % 512 < 512 := Nat.mod_lt _ (by omega)
  unfold emit_Entry.f
  rw [hchk, Option.bind_some, if_pos rfl, hsplit, Option.bind_some]
  simp only
  rw [if_pos hpos, hE, Option.bind_some]
  simp only [if_true]
  rw [hx, hP2, Option.bind_some]
  simp only [if_true]
  rw [if_pos (by rw [hPl]; simp), Option.bind_some, if_pos (by simp only [List.length_append, List.length_nil, hPl]; omega), Option.bind_some, fill_some _ (by omega), Option.bind_some]
  rw [if_pos (by simp only [List.length_append, List.length_replicate, hx, hPl, List.length_nil]; omega), Option.bind_some, hH, Option.bind_some]
  simp only [if_true]
  rw [if_pos (by simp only [List.length_append, List.length_replicate, hx, hPl, hl, List.length_nil]; omega)]
  simp only [List.nil_append]
  rfl
end
def EntEnd (p l u g : ByteArray) (kd md uid gid mt sz : Int) (w : World) (e : Ending) (w' : World) : Prop :=
  ∃ v0 bs c, e = .returned (.tuple #[v0, .int .i64 c]) ∧ RU w' w.heap.size v0 bs ∧ Below w.heap.size w w' ∧ (c = 0 → EmitOk p l u g kd md uid gid mt sz bs) ∧ emit_Entry.f 3 p l kd md uid gid mt sz u g = some (bs, c)
theorem entNo {p l u g : ByteArray} {kd md uid gid mt sz : Int} {w w' : World} {c : Int} (hc : c ≠ 0) (hb : Below w.heap.size w w') (hf : emit_Entry.f 3 p l kd md uid gid mt sz u g = some ([], c)) : EntEnd p l u g kd md uid gid mt sz w (.returned (.tuple #[.slice none 0 0, .int .i64 c])) w' := ⟨_, [], c, rfl, Kd.R_nil _ _ _ _ _, hb, fun h => absurd h hc, hf⟩
section
variable (p l u g : ByteArray) (kd md uid gid mt sz : Int)
set_option maxHeartbeats 16000000 in
set_option maxRecDepth 100000 in
theorem entry_any (hp : p.size ≤ 5000) (hl : l.size ≤ 5000) (hu : u.size ≤ 5000) (hg : g.size ≤ 5000) (i1 : InI uid) (i2 : InI gid) (i3 : InI sz) (i4 : InI mt) (w : World) (he : EnvE w) :
    Calls Tryz.prog 28 #[.agg #[.string p, .string l, .int .i64 kd, .int .i64 md, .int .i64 uid, .int .i64 gid, .int .i64 mt, .int .i64 sz, .string u, .string g]] w (EntEnd p l u g kd md uid gid mt sz w) := by
  have HE := Lib.hid he
  obtain ⟨c, hchk, hc, hc'⟩ := check_val p l u g kd md uid gid mt sz hp hl hu hg 0
  have HCK : Hid (∀ W, EnvE W → Calls Tryz.prog 52 #[.agg #[.string p, .string l, .int .i64 kd, .int .i64 md, .int .i64 uid, .int .i64 gid, .int .i64 mt, .int .i64 sz, .string u, .string g]] W (fun e w' => e = .returned (.int .i64 c) ∧ Below W.heap.size W w')) := fun W hW => emit_Check.calls _ _ _ _ _ _ _ _ _ _ _ _ W hW hchk
  have HB0 : Hid (∀ cs t, Below w.heap.size w (w.alloc (.cells cs t))) := fun cs t => below_alloc (Below.refl _ _) _
  by_cases hgood : goodE p (l.toList != []) (any0 p || any0 l || any0 u || any0 g) kd md uid gid sz
  rotate_left
  · obtain rfl := hc' hgood
    have HF := Lib.hid (ent_f_bad hchk)
    clear he hchk hc hc' hgood i1 i2 i3 i4
    go_enter Tryz.func28, Tryz.ntmps28
    go_wp2_with (go_at_call 52; (with_reducible refine (HCK.out _ (HE.out.below (HB0.out _ _))).mono ?_); rintro e w1 ⟨rfl, hb1⟩; have HB1 := Lib.hid (below_next (HB0.out _ _) hb1); clear hb1)
    go_ret2
    exact entNo (by decide) HB1.out HF.out
  obtain rfl := hc hgood
  obtain ⟨⟨pr, nm, b⟩, hs, hsp⟩ := split_spec p hp
  have hk : ∃ typ, POct.kind_Type.f kd = some typ ∧ 0 ≤ typ ∧ typ < 256 := by
    have h1 := hgood.1
    have h2 := hgood.2.1
    unfold POct.kind_Type.f
    rcases (by omega : kd = 1 ∨ kd = 2 ∨ kd = 3 ∨ kd = 4) with rfl | rfl | rfl | rfl
    · exact ⟨48, rfl, by omega, by omega⟩
    · exact ⟨49, rfl, by omega, by omega⟩
    · exact ⟨50, rfl, by omega, by omega⟩
    · exact ⟨53, rfl, by omega, by omega⟩
  obtain ⟨typ, ht, t0, t1⟩ := hk
  have hsplit : emit_split.f p l kd md uid gid mt sz u g = some (0, (if b then nm else ⟨#[108, 111, 110, 103]⟩), tv l 100, (if b then pr else ⟨#[]⟩), tv u 31, tv g 31, typ, md, nv uid 8, nv gid 8, nv sz 12, nv mt 12, recsK (lEnt p l u g b uid gid sz mt) 8) := by
    unfold emit_split.f
    rw [if_pos ⟨i1, i2, i3, i4⟩, ht, Option.bind_some, hs, Option.bind_some]
    rfl
  have hm := main_fits hsp l u g (typ := typ) (md := md) uid gid sz mt t0 t1 hgood.2.2.1 hgood.2.2.2.1
  have hsm := recs_small p l u g b uid gid sz mt hp hl hu hg (fun j hj => by
    rcases (by omega : j = 0 ∨ j = 1 ∨ j = 2 ∨ j = 3) with rfl | rfl | rfl | rfl
    · exact i1
    · exact i2
    · exact i3
    · exact i4)
  have hR8 := recsK_len (lEnt p l u g b uid gid sz mt) 8
  have hok : ∀ bs, ((recsK (lEnt p l u g b uid gid sz mt) 8 = [] ∧ bs = _) ∨ _) → EmitOk p l u g kd md uid gid mt sz bs := fun bs h => ⟨pr, nm, b, typ, hgood, ht, hsp, hm, h⟩
  have HSF := Lib.hid hsplit
  have HCF := Lib.hid hchk
  have HSP : Hid (∀ W, EnvE W → _) := fun W hW => emit_split.calls p l kd md uid gid mt sz u g _ _ _ _ _ _ _ _ _ _ _ _ _ W hW hsplit
  clear hsplit hgood ht hsp hs hchk hc hc' i1 i2 i3 i4 t0 t1
  generalize (if b then nm else (⟨#[108, 111, 110, 103]⟩ : ByteArray)) = z1 at *
  generalize (if b then pr else (⟨#[]⟩ : ByteArray)) = z3 at *
  generalize tv l 100 = z2 at *
  generalize tv u 31 = z4 at *
  generalize tv g 31 = z5 at *
  generalize nv uid 8 = z6 at *
  generalize nv gid 8 = z7 at *
  generalize nv sz 12 = z8 at *
  generalize nv mt 12 = z9 at *
  generalize recsK (lEnt p l u g b uid gid sz mt) 8 = R at *
  have HM := Lib.hid hm
  have HLN : Hid ((hdrL z1 z2 z3 z4 z5 typ md z6 z7 z8 z9).length = 512) := hdrL_length hm
  have HOK := Lib.hid hok
  have HSM := Lib.hid hsm
  have HR8 := Lib.hid hR8
  clear hm hok hsm hR8 he hp hl hu hg
  go_enter Tryz.func28, Tryz.ntmps28
  go_upto_region 4 with (go_at_call 52; (with_reducible refine (HCK.out _ (HE.out.below (HB0.out _ _))).mono ?_); rintro e w1 ⟨rfl, hb1⟩; have HB1 := Lib.hid (below_next (HB0.out _ _) hb1); have hst := hb1; clear hb1)
  have B1 := blk_of_below hst
  have x0 := B1.cell 0
  have x1 := B1.cell 1
  have x2 := B1.cell 2
  have x3 := B1.cell 3
  have x4 := B1.cell 4
  have x5 := B1.cell 5
  have x6 := B1.cell 6
  have x7 := B1.cell 7
  have x8 := B1.cell 8
  have x9 := B1.cell 9
  simp only [List.getElem?_toArray, List.getElem?_cons_zero, List.getElem?_cons_succ] at x0 x1 x2 x3 x4 x5 x6 x7 x8 x9
  clear B1 hst HCK HB0
  go_upto_region 6 with (go_at_call 53; (with_reducible refine (HSP.out _ (HE.out.below HB1.out)).mono ?_); rintro e w2 ⟨v2, rfl, hR2, hb2⟩; have HR2 := Lib.hid hR2; have HB2 := Lib.hid (below_next HB1.out hb2); clear hR2 hb2)
  have BH := Blk.new w2 36 #[.int .i64 0, .string z1, .string z2, .string z3, .string z4, .string z5, .int .u8 typ, .int .i64 md, .int .i64 z6, .int .i64 z7, .int .i64 z8, .int .i64 z9]
  have BW : Below w2.heap.size w2 (w2.alloc (.cells #[.int .i64 0, .string z1, .string z2, .string z3, .string z4, .string z5, .int .u8 typ, .int .i64 md, .int .i64 z6, .int .i64 z7, .int .i64 z8, .int .i64 z9] 36)) := below_alloc (Below.refl _ _) _
  obtain ⟨A2, c2, hv2⟩ := Kd.R_slice HR2.out
  subst hv2
  obtain ⟨rn, hrn⟩ : ∃ rn, R.length = rn := ⟨_, rfl⟩
  have HRN := Lib.hid hrn
  obtain ⟨gh, hgh⟩ : ∃ g, w2.heap.size = g := ⟨_, rfl⟩
  have HR3 := Lib.hid (Kd.R_below HR2.out BW)
  have HB3 := Lib.hid (below_next HB2.out BW)
  rw [hrn] at HR3 ⊢
  rw [hgh] at BH ⊢
  have BH := Aside0.mk BH
  have HZ9 : Hid ((hdrL z1 z2 z3 z4 z5 typ md z6 z7 z8 z9).length = 512) := HLN.out
  obtain ⟨H, hH⟩ : ∃ H, hdrL z1 z2 z3 z4 z5 typ md z6 z7 z8 z9 = H := ⟨_, rfl⟩
  have HHM : Hid (∀ W, Calls Tryz.prog 15 #[.agg #[.int .i64 0, .string z1, .string z2, .string z3, .string z4, .string z5, .int .u8 typ, .int .i64 md, .int .i64 z6, .int .i64 z7, .int .i64 z8, .int .i64 z9]] W (SealEnd H W)) := fun W => by rw [← hH]; exact head_any 0 z1 z2 z3 z4 z5 typ md z6 z7 z8 z9 W HM.out
  have HHF : Hid (head_Encode.f 0 z1 z2 z3 z4 z5 typ md z6 z7 z8 z9 = some (H, 0)) := by rw [← hH]; exact head_some HM.out
  rw [hH] at HZ9 HOK
  clear x0 x1 x2 x3 x4 x5 x6 x7 x8 x9 HSP HR2 hrn hgh BW hH HLN
  generalize w2.alloc _ = W3 at BH HR3 HB3 ⊢
  by_cases hr0 : rn = 0
  · have f1 : decide ((0 : Int) < (rn : Int)) = false := by simp; omega
    have f2 : decide (0 < rn) = false := by simp; omega
    have HRE : Hid (R = []) := List.length_eq_zero_iff.1 (HRN.out.trans hr0)
    have x0 := BH.out.cell 0
    have x1 := BH.out.cell 1
    have x2 := BH.out.cell 2
    have x3 := BH.out.cell 3
    have x4 := BH.out.cell 4
    have x5 := BH.out.cell 5
    have x6 := BH.out.cell 6
    have x7 := BH.out.cell 7
    have x8 := BH.out.cell 8
    have x9 := BH.out.cell 9
    have x10 := BH.out.cell 10
    have x11 := BH.out.cell 11
    simp only [List.getElem?_toArray, List.getElem?_cons_zero, List.getElem?_cons_succ] at x0 x1 x2 x3 x4 x5 x6 x7 x8 x9 x10 x11
    clear hr0
    go_upto_region 17 with (go_at_call 15; (with_reducible refine (HHM.out _).mono ?_); rintro e w4 ⟨v4, rfl, hR4, hb4⟩; have HR4 : Hid (RU w4 W3.heap.size v4 H) := hR4; have HB4 := Lib.hid hb4; clear hR4 hb4)
    obtain ⟨A4, c4, hv4, _, hc4⟩ := Kd.R_reads HR4.out
    rw [HZ9.out] at hv4 hc4
    subst hv4
    have HC4 := Lib.hid hc4
    have HS4 : Hid (W3.heap.size ≤ w4.heap.size) := HB4.out.size
    have HLE : Hid ((([] : List Int).length + 512) * 1 ≤ 140737488355328) := by show _ ≤ _; decide
    have HN4 : Hid (RU w4 W3.heap.size (.slice none 0 0) []) := Kd.R_nil _ _ _ _ _
    clear hc4 x0 x1 x2 x3 x4 x5 x6 x7 x8 x9 x10 x11
    go_wp2_with (at_builtin; (with_reducible refine R_rowsN (w0 := W3) W3.heap.size ?_ (.tmp 61) (.tmp 62) ?_ (.slice none 0 0) [] H A4 512 c4 ?_ ?_ HN4.out HC4.out HB4.out HS4.out HLE.out ?_); rfl; rfl; rfl; rfl; intro v5 w5 hov5 hbv5; have HOv5 := Lib.hid hov5; have HBv5 := Lib.hid hbv5; clear hov5 hbv5)
    go_ret2
    exact ⟨v5, H, 0, rfl, Kd.R_lower HOv5.out HB3.out.size, below_next HB3.out HBv5.out, fun _ => HOK.out H (.inl ⟨HRE.out, rfl⟩), ent_f_one HCF.out HSF.out HRE.out HHF.out HZ9.out⟩
  have f1 : decide ((0 : Int) < (rn : Int)) = true := by simp; omega
  have f2 : decide (0 < rn) = true := by simp; omega
  have HRE : Hid (R ≠ []) := fun h => hr0 (by rw [← HRN.out, h]; rfl)
  have hpx : pax_Encode.f R = some (intsOf (encOf R).1, (encOf R).2) := by
    unfold pax_Encode.f
    rw [if_pos HSM.out]
  have HPX : Hid (Calls Tryz.prog 26 #[.slice A2 rn c2] W3 (fun e w' => ∃ A c, e = .returned (.tuple #[.slice A (intsOf (encOf R).1).length c, .int .i64 (encOf R).2]) ∧ Kd.C (Kd.int .u8) w' A (intsOf (encOf R).1).length (intsOf (encOf R).1) ∧ Below W3.heap.size W3 w')) := by
    have h0 := HR3.out
    rw [← HRN.out] at h0 ⊢
    obtain ⟨h1, h2, h3⟩ := Kd.R_reads' h0
    refine (pax_Encode.calls A2 c2 R _ _ W3 h3 h2 (HE.out.below HB3.out) hpx).mono fun e w' ⟨v, q1, q2, q3⟩ => ?_
    obtain ⟨A, c, hv⟩ := Kd.V_slice q2
    subst hv
    exact ⟨A, c, q1, (Kd.V_reads' q2).2.2, q3⟩
  by_cases he2 : (encOf R).2 = 0
  rotate_left
  · obtain ⟨cc, hcc⟩ : ∃ cc, (encOf R).2 = cc := ⟨_, rfl⟩
    rw [hcc] at HPX he2 hpx
    have HFE := Lib.hid (ent_f_err HCF.out HSF.out HRE.out hpx he2)
    have f3 : (cc != 0) = true := by simpa using he2
    have HC0 := Lib.hid he2
    clear hr0 hpx he2 hcc
    go_wp2_with (go_at_call 26; (with_reducible refine HPX.out.mono ?_); rintro e w4 ⟨A4, c4, rfl, hC4, hb4⟩; have HB4 := Lib.hid hb4; clear hC4 hb4)
    go_ret2
    exact entNo HC0.out (below_next HB3.out HB4.out) HFE.out
  obtain ⟨_, hchkL, e1⟩ := enc_parts he2
  rw [e1, he2] at HPX
  have hle : (encL R).length ≤ 8 * 2000100 := by
    have h1 := encL_le (l := R) (n := 2000100) (fun r hr => recT_le r.1 r.2 (HSM.out r hr).1 (HSM.out r hr).2)
    exact Nat.le_trans h1 (Nat.mul_le_mul_right _ HR8.out)
  have hil : (intsOf (encL R)).length = (encL R).length := by simp [intsOf]
  obtain ⟨n, hn⟩ : ∃ n, (encL R).length = n := ⟨_, rfl⟩
  rw [hn] at hle hil
  rw [hil] at HPX
  have HPF : Hid (PaxFits (n : Int)) := pax_fits n (by omega)
  rw [e1, he2] at hpx
  have HFT := Lib.hid (ent_f_two HCF.out HSF.out HRE.out hpx hil (by omega) HPF.out HHF.out HZ9.out)
  have HPL : Hid ((paxH n).length = 512) := hdrL_length HPF.out
  obtain ⟨PD, hPD⟩ : ∃ PD, (512 - n % 512) % 512 = PD := ⟨_, rfl⟩
  have HPB : Hid (PD ≤ 511) := by show _ ≤ _; omega
  have FILL : Hid (∀ W, Calls Tryz.prog 29 #[.int .i64 (n : Int)] W (fun e w' => ∃ v0, e = .returned v0 ∧ RU w' W.heap.size v0 (List.replicate PD 0) ∧ Below W.heap.size W w')) := fun W => emit_Fill.calls (n : Int) _ W (by rw [fill_some n (by omega), hPD])
  have HFIN : Hid (EmitOk p l u g kd md uid gid mt sz (paxH n ++ intsOf (encL R) ++ List.replicate PD 0 ++ H)) := HOK.out _ (.inr ⟨HRE.out, hchkL, by rw [hn]; exact HPF.out, by rw [hn, hPD]⟩)
  have HPH : Hid (∀ W, Calls Tryz.prog 15 #[.agg #[.int .i64 0, .string ⟨#[112, 97, 120]⟩, .string ⟨#[]⟩, .string ⟨#[]⟩, .string ⟨#[]⟩, .string ⟨#[]⟩, .int .u8 120, .int .i64 420, .int .i64 0, .int .i64 0, .int .i64 (n : Int), .int .i64 0]] W (SealEnd (paxH n) W)) := fun W => head_any 0 ⟨#[112, 97, 120]⟩ ⟨#[]⟩ ⟨#[]⟩ ⟨#[]⟩ ⟨#[]⟩ 120 420 0 0 n 0 W HPF.out
  have hnb : (n : Int) ≤ 20000000 := by omega
  have HNB := Lib.hid hnb
  have HIL := Lib.hid hil
  rw [hPD] at HFT
  clear hr0 hpx he2 hchkL e1 hle hil hn hPD HOK
  go_upto_region 10 with (go_at_call 26; (with_reducible refine HPX.out.mono ?_); rintro e w4 ⟨A4, c4, rfl, hC4, hb4⟩; have HC4 := Lib.hid hC4; have HB4 := Lib.hid hb4; clear hC4 hb4)
  go_upto_region 13 with (go_at_call 15; (with_reducible refine (HPH.out _).mono ?_); rintro e w5 ⟨v5, rfl, hR5, hb5⟩; have HR5 : Hid (RU w5 w4.heap.size v5 (paxH n)) := hR5; have HB5 := Lib.hid hb5; clear hR5 hb5)
  obtain ⟨A5, c5, hv5, _, hc5⟩ := Kd.R_reads HR5.out
  rw [HPL.out] at hv5 hc5
  subst hv5
  have HC5 := Lib.hid hc5
  have HB45 : Hid (Below W3.heap.size W3 w5) := below_next HB4.out HB5.out
  have HN5 : Hid (RU w5 w5.heap.size (.slice none 0 0) []) := Kd.R_nil _ _ _ _ _
  have HR55 : Hid (Below w5.heap.size w5 w5) := Below.refl _ _
  have HS5 : Hid (w5.heap.size ≤ w5.heap.size) := Nat.le_refl _
  have HLE1 : Hid ((([] : List Int).length + 512) * 1 ≤ 140737488355328) := by show _ ≤ _; decide
  have HLE2 : Hid ((([] ++ paxH n).length + n) * 1 ≤ 140737488355328) := by have := HNB.out; show _ ≤ _; rw [List.nil_append, HPL.out]; omega
  have HLE3 : Hid ((([] ++ paxH n ++ intsOf (encL R)).length + PD) * 1 ≤ 140737488355328) := by have := HNB.out; have := HPB.out; show _ ≤ _; rw [List.nil_append, List.length_append, HPL.out, HIL.out]; omega
  have HLE4 : Hid ((([] ++ paxH n ++ intsOf (encL R) ++ List.replicate PD 0).length + 512) * 1 ≤ 140737488355328) := by have := HNB.out; have := HPB.out; show _ ≤ _; rw [List.nil_append, List.length_append, List.length_append, List.length_replicate, HPL.out, HIL.out]; omega
  have HC45 : Hid (Kd.C (Kd.int .u8) w5 A4 n (intsOf (encL R))) := Kd.C_below HC4.out HB5.out
  clear hc5
  go_upto_region 14 with (first | (at_builtin; (with_reducible refine R_rowsN (w0 := w5) w5.heap.size ?_ (.tmp 44) (.tmp 45) ?_ (.slice none 0 0) [] (paxH n) A5 512 c5 ?_ ?_ HN5.out HC5.out HR55.out HS5.out HLE1.out ?_); rfl; rfl; rfl; rfl; intro v6 w6 ho6 hb6; have HO6 := Lib.hid ho6; have HB6 := Lib.hid hb6; have HC6 := Lib.hid (Kd.C_below HC45.out hb6); have HS6 : Hid (w5.heap.size ≤ w6.heap.size) := hb6.size; clear ho6 hb6) | (at_builtin; (with_reducible refine R_rowsN (w0 := w5) w5.heap.size ?_ (.tmp 46) (.tmp 47) ?_ v6 ([] ++ paxH n) (intsOf (encL R)) A4 n c4 ?_ ?_ HO6.out HC6.out HB6.out HS6.out HLE2.out ?_); rfl; rfl; rfl; rfl; intro v7 w7 ho7 hb7; have HO7 := Lib.hid ho7; have HB7 := Lib.hid hb7; clear ho7 hb7) | (go_at_call 29; (with_reducible refine (FILL.out _).mono ?_); rintro e wF ⟨vF, rfl, hRF, hbF⟩; obtain ⟨AF, cF, hvF, _, hcF⟩ := Kd.R_reads hRF; rw [List.length_replicate] at hvF hcF; subst hvF; have HCF := Lib.hid hcF; have HOF := Lib.hid (Kd.R_below HO7.out hbF); have HBF := Lib.hid (below_then HB7.out HB7.out.size hbF); have HSF : Hid (w5.heap.size ≤ wF.heap.size) := HBF.out.size; clear hRF hbF hcF) | (at_builtin; (with_reducible refine R_rowsN (w0 := w5) w5.heap.size ?_ (.tmp 48) (.tmp 51) ?_ v7 ([] ++ paxH n ++ intsOf (encL R)) (List.replicate PD 0) AF PD cF ?_ ?_ HOF.out HCF.out HBF.out HSF.out HLE3.out ?_); rfl; rfl; rfl; rfl; intro v8 w8 ho8 hb8; have HO8 := Lib.hid ho8; have HB8 := Lib.hid hb8; clear ho8 hb8))
  have BH8 := BH.out.below (below_then HB45.out HB45.out.size HB8.out) BH.out.lt
  have x0 := BH8.cell 0
  have x1 := BH8.cell 1
  have x2 := BH8.cell 2
  have x3 := BH8.cell 3
  have x4 := BH8.cell 4
  have x5 := BH8.cell 5
  have x6 := BH8.cell 6
  have x7 := BH8.cell 7
  have x8 := BH8.cell 8
  have x9 := BH8.cell 9
  have x10 := BH8.cell 10
  have x11 := BH8.cell 11
  simp only [List.getElem?_toArray, List.getElem?_cons_zero, List.getElem?_cons_succ] at x0 x1 x2 x3 x4 x5 x6 x7 x8 x9 x10 x11
  clear BH8
  go_upto_region 17 with (go_at_call 15; (with_reducible refine (HHM.out _).mono ?_); rintro e w9 ⟨v9, rfl, hR9, hb9⟩; have HR9 : Hid (RU w9 w8.heap.size v9 H) := hR9; have HB9 := Lib.hid hb9; clear hR9 hb9)
  obtain ⟨A9, c9, hv9, _, hc9⟩ := Kd.R_reads HR9.out
  rw [HZ9.out] at hv9 hc9
  subst hv9
  have HC9 := Lib.hid hc9
  have HO9 := Lib.hid (Kd.R_below HO8.out HB9.out)
  have HB59 : Hid (Below w5.heap.size w5 w9) := below_then HB8.out HB8.out.size HB9.out
  have HS9 : Hid (w5.heap.size ≤ w9.heap.size) := HB59.out.size
  clear hc9 x0 x1 x2 x3 x4 x5 x6 x7 x8 x9 x10 x11
  go_wp2_with (at_builtin; (with_reducible refine R_rowsN (w0 := w5) w5.heap.size ?_ (.tmp 61) (.tmp 62) ?_ v8 ([] ++ paxH n ++ intsOf (encL R) ++ List.replicate PD 0) H A9 512 c9 ?_ ?_ HO9.out HC9.out HB59.out HS9.out HLE4.out ?_); rfl; rfl; rfl; rfl; intro v10 w10 ho10 hb10; have HO10 := Lib.hid ho10; have HB10 := Lib.hid hb10; clear ho10 hb10)
  go_ret2
  exact ⟨v10, _, 0, rfl, Kd.R_lower HO10.out (below_next HB3.out HB45.out).size, below_then (below_next HB3.out HB45.out) (below_next HB3.out HB45.out).size HB10.out, fun _ => by rw [List.nil_append]; exact HFIN.out, by rw [List.nil_append]; exact HFT.out⟩
end
end Go.Proofs.YtpbpfngichfgeaaGreatDoor.PEmit
