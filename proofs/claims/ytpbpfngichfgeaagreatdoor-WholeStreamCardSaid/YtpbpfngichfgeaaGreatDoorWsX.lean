/-
  WholeStream, walked: files are written one behind the other, and read.
-/
import Derived.Test.YtpbpfngichfgeaaGreatDoorWsW
import Derived.Test.YtpbpfngichfgeaaGreatDoorEncR
import Derived.Test.YtpbpfngichfgeaaGreatDoorGlobW
import Derived.Test.YtpbpfngichfgeaaGreatDoorMades
namespace Go.Proofs.YtpbpfngichfgeaaGreatDoor
set_option linter.unusedVariables false
set_option linter.unusedSectionVars false
set_option linter.unusedSimpArgs false
set_option linter.unnecessarySimpa false
open Go Go.RowKit Go.Proofs.YtpbpfngichfgeaaGreatDoorW.PrintWords Go.Proofs.YtpbpfngichfgeaaGreatDoorW.PrintLast Go.Proofs.YtpbpfngichfgeaaGreatDoorW.PrintMore

/-- append(v, row...) at a step of a region that draws its order. -/
theorem R_rows_E {P : Program} {ops : Array Oper} {o : Oper} {a : Act} {Q : Exit → Act → World → Prop} {Kc : Act → World → Prop} {E : Prop} {w0 W : World} (base : Nat) (hw : o.guard = none) (s x : Operand) (t e : TypeId) (z : Value) (bytes : Nat)
    (ho : o.op = .call { callee := .builtin .append, args := #[s, x], argTypes := #[t, t] })
    (ht : P.underlying t = some (.slice e)) (hinfo : (P.info? e).map (fun i => (i.zero, i.size, i.bytes)) = some (some z, (Kd.int .u8).sz, bytes)) (hz : z.cells.size = (Kd.int .u8).sz) (hb0 : 0 < bytes)
    (v : Value) (xs ys : List Int) (A : Option Addr) (m c : Nat) (hs : a.eval s = v) (hx : a.eval x = .slice A m c)
    (HO : (Kd.int .u8).R e W base (fun _ => True) v xs) (HR : Kd.C (Kd.int .u8) W A m ys) (HB : Below base w0 W) (hbase : base ≤ W.heap.size) (hl : (xs.length + m) * bytes ≤ 140737488355328)
    (h : ∀ v1 w1, (Kd.int .u8).R e w1 base (fun _ => True) v1 (xs ++ ys) → Below base w0 w1 → Kc (a.put o.dst v1) w1) :
    if Region.wanted o (yielded ops a.tmps) = true then Oper.wp P o a W Kc Q else E := by
  have hwt : Region.wanted o (yielded ops a.tmps) = true := by simp [Region.wanted, hw]
  have q := Kd.R_append_rows_step (Kd.int .u8) (Rr := (Kd.int .u8).K W) (w0 := w0) (W := W) (Q := Q) (Kc := Kc) base hwt s x t e z bytes ho ht hinfo hz (by decide) hb0 v xs ys A m c (fun _ => True) (fun _ => False) hs hx HO HR (fun _ _ hh => hh) (fun _ hk => hk.elim) (fun _ _ => trivial) HB hbase hl (fun v1 w1 h1 h2 h3 h4 => h v1 w1 h1 h2)
  rw [if_pos hwt] at q ⊢
  exact q
theorem R_zeros_E {P : Program} {ops : Array Oper} {o : Oper} {a : Act} {Q : Exit → Act → World → Prop} {Kc : Act → World → Prop} {E : Prop} {w0 W : World} (base : Nat) (hw : o.guard = none) (s x : Operand) (t ti e : TypeId) (z : Value) (bytes : Nat)
    (ho : o.op = .call { callee := .builtin .append, args := #[s, x], argTypes := #[t, ti] })
    (ht : P.underlying t = some (.slice e)) {k : IntKind} (hti : P.underlying ti = some (.int k)) (hinfo : (P.info? e).map (fun i => (i.zero, i.size, i.bytes)) = some (some z, (Kd.int .u8).sz, bytes)) (hz : z.cells.size = (Kd.int .u8).sz) (hb0 : 0 < bytes)
    (v : Value) (xs : List Int) {kx : IntKind} (n : Int) (hs : a.eval s = v) (hx : a.eval x = .int kx n) (hzero : z = .int .u8 0)
    (HO : (Kd.int .u8).R e W base (fun _ => True) v xs) (h0 : 0 ≤ n) (HB : Below base w0 W) (hbase : base ≤ W.heap.size) (hl : (xs.length + n.toNat) * bytes ≤ 140737488355328)
    (h : ∀ v1 w1, (Kd.int .u8).R e w1 base (fun _ => True) v1 (xs ++ List.replicate n.toNat 0) → Below base w0 w1 → Kc (a.put o.dst v1) w1) :
    if Region.wanted o (yielded ops a.tmps) = true then Oper.wp P o a W Kc Q else E := by
  have hwt : Region.wanted o (yielded ops a.tmps) = true := by simp [Region.wanted, hw]
  subst hzero
  have q := Kd.R_append_zeros_step (Kd.int .u8) (w0 := w0) (W := W) (Q := Q) (Kc := Kc) base hwt s x t ti e (.int .u8 0) bytes ho ht hti hinfo hz (by decide) hb0 v xs 0 n (fun _ => True) hs hx rfl (fun _ _ => trivial) HO h0 HB hbase hl (fun v1 w1 h1 h2 h3 h4 => h v1 w1 h1 h2)
  rw [if_pos hwt] at q ⊢
  exact q
/-- The same over rows of bytes of this program. -/
theorem R_rowsP {ops : Array Oper} {o : Oper} {a : Act} {Q : Exit → Act → World → Prop} {Kc : Act → World → Prop} {E : Prop} {w0 W : World} (base : Nat) (hw : o.guard = none) (s x : Operand)
    (ho : o.op = .call { callee := .builtin .append, args := #[s, x], argTypes := #[32, 32] })
    (v : Value) (xs ys : List Int) (A : Option Addr) (m c : Nat) (hs : a.eval s = v) (hx : a.eval x = .slice A m c)
    (HO : (Kd.int .u8).R 5 W base (fun _ => True) v xs) (HR : Kd.C (Kd.int .u8) W A m ys) (HB : Below base w0 W) (hbase : base ≤ W.heap.size) (hl : (xs.length + m) * 1 ≤ 140737488355328)
    (h : ∀ v1 w1, (Kd.int .u8).R 5 w1 base (fun _ => True) v1 (xs ++ ys) → Below base w0 w1 → Kc (a.put o.dst v1) w1) :
    if Region.wanted o (yielded ops a.tmps) = true then Oper.wp Tryz.prog o a W Kc Q else E :=
  R_rows_E base hw s x 32 5 _ 1 ho Tryz.underlying32 infoU8 (by rfl) (by decide) v xs ys A m c hs hx HO HR HB hbase hl h
theorem R_zerosP {ops : Array Oper} {o : Oper} {a : Act} {Q : Exit → Act → World → Prop} {Kc : Act → World → Prop} {E : Prop} {w0 W : World} (base : Nat) (hw : o.guard = none) (s x : Operand)
    (ho : o.op = .call { callee := .builtin .append, args := #[s, x], argTypes := #[32, 3] })
    (v : Value) (xs : List Int) (n : Nat) (hs : a.eval s = v) (hx : a.eval x = .int .i64 (n : Int))
    (HO : (Kd.int .u8).R 5 W base (fun _ => True) v xs) (HB : Below base w0 W) (hbase : base ≤ W.heap.size) (hl : (xs.length + n) * 1 ≤ 140737488355328)
    (h : ∀ v1 w1, (Kd.int .u8).R 5 w1 base (fun _ => True) v1 (xs ++ List.replicate n 0) → Below base w0 w1 → Kc (a.put o.dst v1) w1) :
    if Region.wanted o (yielded ops a.tmps) = true then Oper.wp Tryz.prog o a W Kc Q else E :=
  R_zeros_E base hw s x 32 3 5 _ 1 ho Tryz.underlying32 Tryz.underlying3 infoU8 (by rfl) (by decide) v xs (n : Int) hs hx rfl HO (Int.natCast_nonneg n) HB hbase (by rw [Int.toNat_natCast]; exact hl) (by rw [Int.toNat_natCast]; exact h)
theorem pad_n (n P : Nat) (h1 : n ≤ 4611686018427387904) (hP : (padOf (n : Int)).toNat = P) (w : World) : Calls Tryz.prog 16 #[.int .i64 (n : Int)] w fun e w' => e = .returned (.int .i64 (P : Int)) ∧ w = w' := by
  have e : -((n : Int) % 512) % 512 = (P : Int) := by unfold padOf at hP; omega
  have h := pad_any (n : Int) (by omega) (by omega) w
  rw [e] at h
  exact h
theorem fits_some (s : ByteArray) : ∃ b, POct.head_Fits.f s 100 = some b := by
  unfold POct.head_Fits.f POct.strings_Contains.f
  by_cases h : s.size ≤ 100
  · rw [if_pos (by omega)]; simp
  · rw [if_neg (by omega)]; simp
set_option maxHeartbeats 8000000 in
set_option maxRecDepth 100000 in
theorem ws_early (NA DA CA : Option Addr) (nn nc dn dc m cc : Nat) (w : World) (he : EnvE w) (hg : w.cell? ⟨0, 0, none⟩ = some etype) (h : 10 < nn ∨ dn ≠ nn ∨ 50 < m) :
    Calls Tryz.prog 3 #[.slice NA nn nc, .slice DA dn dc, .slice CA m cc] w (Yes w) := by
  have HE := Lib.hid he
  have HB1 : Hid (Below w.heap.size w (w.alloc (.cells newCells 77))) := below_alloc (Below.refl _ _) _
  have HG1 : Hid ((w.alloc (.cells newCells 77)).cell? ⟨0, 0, none⟩ = some etype) := et_below he HB1.out hg
  have HEN := Lib.hid (end_any _ _ _ _ _ _ _ _ _ _ (PSx.new w))
  have hee : ps0.endE = some (5, 0) := rfl
  rw [hee] at HEN
  clear hee
  clear he hg
  by_cases h1 : 10 < nn
  · have e1 : decide ((10 : Int) < (nn : Int)) = true := by simp; omega
    clear h
    go_enter Tryz.func3, Tryz.ntmps3
    go_wp2_with (first | (go_at_call 12; (with_reducible refine (new_any _).mono ?_); rintro e w1 ⟨rfl, rfl⟩) | (go_at_call 14; (with_reducible refine HEN.out.mono ?_); rintro e w2 ⟨rfl, rfl⟩) | (go_at_call 13; (with_reducible refine (code_any 5 [0] _ _ (.wrap 0 [] _ _ .leaf) _ HG1.out).mono ?_); rintro e w3 ⟨rfl, hb3⟩; have HB3 := Lib.hid (below_next HB1.out hb3); clear hb3))
    go_ret
    exact ⟨rfl, HB3.out⟩
  have e1 : decide ((10 : Int) < (nn : Int)) = false := by simp; omega
  by_cases h2 : dn = nn
  · have e2 : ((dn : Int) != (nn : Int)) = false := by rw [bne_eq_false_iff_eq]; omega
    have e3 : decide ((50 : Int) < (m : Int)) = true := by simp; omega
    clear h h2
    go_enter Tryz.func3, Tryz.ntmps3
    go_wp2_with (first | (go_at_call 12; (with_reducible refine (new_any _).mono ?_); rintro e w1 ⟨rfl, rfl⟩) | (go_at_call 14; (with_reducible refine HEN.out.mono ?_); rintro e w2 ⟨rfl, rfl⟩) | (go_at_call 13; (with_reducible refine (code_any 5 [0] _ _ (.wrap 0 [] _ _ .leaf) _ HG1.out).mono ?_); rintro e w3 ⟨rfl, hb3⟩; have HB3 := Lib.hid (below_next HB1.out hb3); clear hb3))
    go_ret
    exact ⟨rfl, HB3.out⟩
  · have e2 : ((dn : Int) != (nn : Int)) = true := by rw [bne_iff_ne]; omega
    clear h h2
    go_enter Tryz.func3, Tryz.ntmps3
    go_wp2_with (first | (go_at_call 12; (with_reducible refine (new_any _).mono ?_); rintro e w1 ⟨rfl, rfl⟩) | (go_at_call 14; (with_reducible refine HEN.out.mono ?_); rintro e w2 ⟨rfl, rfl⟩) | (go_at_call 13; (with_reducible refine (code_any 5 [0] _ _ (.wrap 0 [] _ _ .leaf) _ HG1.out).mono ?_); rintro e w3 ⟨rfl, hb3⟩; have HB3 := Lib.hid (below_next HB1.out hb3); clear hb3))
    go_ret
    exact ⟨rfl, HB3.out⟩
set_option maxHeartbeats 16000000 in
set_option maxRecDepth 100000 in
theorem ws_main (NA DA CA : Option Addr) (nn nc dc m cc : Nat) (names : List ByteArray) (datas : List (List Int)) (cuts : List Int) (w : World) (he : EnvE w) (hg : w.cell? ⟨0, 0, none⟩ = some etype)
    (hn : Kd.C Kd.string w NA nn names) (hd : Kd.C (Kd.slice 5 (Kd.int .u8)) w DA nn datas) (hc : Kd.C (Kd.int .i64) w CA m cuts) (lc : m ≤ cc) (n10 : nn ≤ 10) (c50 : m ≤ 50) (hr : ∀ d ∈ datas, ∀ x ∈ d, 0 ≤ x ∧ x < 256) :
    Calls Tryz.prog 3 #[.slice NA nn nc, .slice DA nn dc, .slice CA m cc] w (Yes w) := by
  have HE := Lib.hid he
  have HB1 : Hid (Below w.heap.size w (w.alloc (.cells newCells 77))) := below_alloc (Below.refl _ _) _
  have HG1 : Hid ((w.alloc (.cells newCells 77)).cell? ⟨0, 0, none⟩ = some etype) := et_below he HB1.out hg
  have HEN := Lib.hid (end_any _ _ _ _ _ _ _ _ _ _ (PSx.new w))
  have hee : ps0.endE = some (5, 0) := rfl
  rw [hee] at HEN
  clear hee
  have HG := Lib.hid hg
  have HN := Lib.hid hn
  have HD := Lib.hid hd
  have HC := Lib.hid hc
  have HLC := Lib.hid lc
  have HN10 := Lib.hid n10
  have H50 := Lib.hid c50
  have HRN := Lib.hid hr
  have HNL : Hid (names.length = nn) := hn.1
  have HDL : Hid (datas.length = nn) := hd.1
  have e1 : decide ((10 : Int) < (nn : Int)) = false := by simp; omega
  have e2 : ((nn : Int) != (nn : Int)) = false := by simp
  have e3 : decide ((50 : Int) < (m : Int)) = false := by simp; omega
  clear he hg hn hd hc lc c50 hr
  go_enter Tryz.func3, Tryz.ntmps3
  go_upto_region 7 with (first | (go_at_call 12; (with_reducible refine (new_any _).mono ?_); rintro e w1 ⟨rfl, rfl⟩) | (go_at_call 14; (with_reducible refine HEN.out.mono ?_); rintro e w2 ⟨rfl, rfl⟩) | (go_at_call 13; (with_reducible refine (code_any 5 [0] _ _ (.wrap 0 [] _ _ .leaf) _ HG1.out).mono ?_); rintro e w3 ⟨rfl, hb3⟩; have HB3 := Lib.hid (below_next HB1.out hb3); clear hb3))
  clear e1 e2 e3 HEN HB1 HG1
  go_wp2_with fail
  obtain ⟨wB, rfl⟩ : ∃ wB, wB = w3 := ⟨_, rfl⟩
  have R0 : Aside0 (Kd.R (Kd.int .u8) 5 wB wB.heap.size (fun _ => True) (.slice none 0 0) (wsL ((names.zip datas).take 0)) ∧ Below wB.heap.size wB wB ∧ (∀ f ∈ (names.zip datas).take 0, WsOk f)) := ⟨Kd.R_nil _ _ _ _ _, Below.refl _ _, fun f hf => by simp at hf⟩
  go_loopg [8, 47] nn (fun gk v8 v47 wr => ∃ (k : Nat) (A' : Option Addr) (nl c' : Nat), k + gk = nn ∧ v47 = .int .i64 k ∧ v8 = .slice A' nl c' ∧ (wsL ((names.zip datas).take k)).length = nl ∧ Aside0 (Kd.R (Kd.int .u8) 5 wr wB.heap.size (fun _ => True) (.slice A' nl c') (wsL ((names.zip datas).take k)) ∧ Below wB.heap.size wB wr ∧ (∀ f ∈ (names.zip datas).take k, WsOk f)))
  case atStart => exact ⟨0, none, 0, 0, by omega, rfl, rfl, rfl, R0⟩
  case round =>
    clear R0
    obtain ⟨k, A', nl, c', hk, rfl, rfl, hnl, HL⟩ := hrel
    have HNLL := Lib.hid hnl
    have HK := Lib.hid hk
    have hnlb : nl ≤ 30000 := by
      have h1 := wsL_len _ HL.out.2.2
      have h2 : ((names.zip datas).take k).length ≤ k := List.length_take_le _ _
      omega
    have HNB := Lib.hid hnlb
    clear hnl
    by_cases hlt : k < nn
    · have hk1 : k < names.length := by rw [HNL.out]; exact hlt
      have hk2 : k < datas.length := by rw [HDL.out]; exact hlt
      obtain ⟨nm, hnm⟩ : ∃ nm, names[k]? = some nm := ⟨_, List.getElem?_eq_getElem hk1⟩
      obtain ⟨d, hdd⟩ : ∃ d, datas[k]? = some d := ⟨_, List.getElem?_eq_getElem hk2⟩
      have HZ : Hid ((names.zip datas)[k]? = some (nm, d)) := List.getElem?_zip_eq_some.2 ⟨hnm, hdd⟩
      obtain ⟨adn, hNA, cn⟩ := C_at1 HN.out k nm hnm
      obtain ⟨add, Ai, ci, hDA, cdd, hle, hCd⟩ := C_atS HD.out k d hdd
      have HRD : Hid (∀ x ∈ d, 0 ≤ x ∧ x < 256) := HRN.out d (List.mem_of_getElem? hdd)
      have HCD := Lib.hid hCd
      have HLI := Lib.hid hle
      have HBR : Hid (Below w.heap.size w wr) := below_next HB3.out HL.out.2.1
      subst hNA hDA
      have HCB : Hid (wB.cell? (add.add k) = some (.slice Ai d.length ci)) := pw_cell_below HB3.out cdd
      have cn := pw_cell_below HBR.out cn
      have cdd := pw_cell_below HBR.out cdd
      obtain ⟨dl, hdl⟩ : ∃ dl, d.length = dl := ⟨_, rfl⟩
      have HDLN := Lib.hid hdl
      rw [hdl] at cdd HCD HLI HCB
      clear hk1 hk2 hnm hdd hCd hle hdl hk
      by_cases b1 : 1500 < dl
      · have f1 : decide ((1500 : Int) < (dl : Int)) = true := by simp; omega
        go_wp2_with fail
        go_ret
        exact ⟨rfl, HBR.out⟩
      have f1 : decide ((1500 : Int) < (dl : Int)) = false := by simp; omega
      by_cases b2 : nm = ⟨#[]⟩
      · have f2 : nm.toList.isEmpty = true := by rw [b2]; simp
        clear b2
        go_wp2_with fail
        go_ret
        exact ⟨rfl, HBR.out⟩
      have f2 : nm.toList.isEmpty = false := by
        cases h : nm.toList with
        | nil => exact absurd (tl_nil h) b2
        | cons a l => rfl
      by_cases b3 : 100 < nm.size
      · have f3 : decide ((100 : Int) < (nm.size : Int)) = true := by simp; omega
        go_wp2_with fail
        go_ret
        exact ⟨rfl, HBR.out⟩
      have f3 : decide ((100 : Int) < (nm.size : Int)) = false := by simp; omega
      have HB2N := Lib.hid b2
      have hd15 : dl ≤ 1500 := by omega
      clear b1 b2 b3
      obtain ⟨fb, hfb⟩ := fits_some nm
      cases fb with
      | false =>
        have HNO := Lib.hid hfb
        clear hfb
        go_wp2_with (go_at_call 15; (with_reducible refine (head_no 0 nm ⟨#[]⟩ ⟨#[]⟩ ⟨#[]⟩ ⟨#[]⟩ 48 420 0 0 dl 0 wr HNO.out).mono ?_); rintro e w5 ⟨rfl, hb5⟩; have HB5 := Lib.hid hb5; clear hb5)
        go_ret
        exact ⟨rfl, below_next HBR.out HB5.out⟩
      | true =>
        have HOK : Hid (WsOk (nm, d)) := ⟨by show HdrFits nm ⟨#[]⟩ ⟨#[]⟩ ⟨#[]⟩ ⟨#[]⟩ 48 420 0 0 (d.length : Int) 0; exact fileFits hfb (by omega) (by omega) (by rw [HDLN.out]; omega), HRD.out, by show d.length ≤ 1500; rw [HDLN.out]; exact hd15⟩
        have HFIT : Hid (HdrFits nm ⟨#[]⟩ ⟨#[]⟩ ⟨#[]⟩ ⟨#[]⟩ 48 420 0 0 (dl : Int) 0) := by
          have h := HOK.out.fit
          have h2 : HdrFits nm ⟨#[]⟩ ⟨#[]⟩ ⟨#[]⟩ ⟨#[]⟩ 48 420 0 0 (d.length : Int) 0 := h
          rw [HDLN.out] at h2
          exact h2
        clear hfb
        go_upto_region 15 with (go_at_call 15; (with_reducible refine (head_any 0 nm ⟨#[]⟩ ⟨#[]⟩ ⟨#[]⟩ ⟨#[]⟩ 48 420 0 0 dl 0 wr HFIT.out).mono ?_); rintro e w5 ⟨v5, rfl, hR5, hb5⟩; have HR5 : Hid (Kd.R (Kd.int .u8) 5 w5 wr.heap.size (fun _ => True) v5 (hdrL nm ⟨#[]⟩ ⟨#[]⟩ ⟨#[]⟩ ⟨#[]⟩ 48 420 0 0 dl 0)) := hR5; have HB5 := Lib.hid hb5; clear hR5 hb5)
        have HHL : Hid ((hdrL nm ⟨#[]⟩ ⟨#[]⟩ ⟨#[]⟩ ⟨#[]⟩ 48 420 0 0 (dl : Int) 0).length = 512) := hdrL_length HFIT.out
        obtain ⟨H, hH⟩ : ∃ H, hdrL nm ⟨#[]⟩ ⟨#[]⟩ ⟨#[]⟩ ⟨#[]⟩ 48 420 0 0 (dl : Int) 0 = H := ⟨_, rfl⟩
        have HH := Lib.hid hH
        rw [hH] at HR5 HHL
        obtain ⟨A5, c5, hv5, hl5, hc5⟩ := Kd.R_reads HR5.out
        rw [HHL.out] at hv5 hl5 hc5
        subst hv5
        obtain ⟨X, hX⟩ : ∃ X, wsL ((names.zip datas).take k) = X := ⟨_, rfl⟩
        have HX := Lib.hid hX
        have HRX : Hid (Kd.R (Kd.int .u8) 5 w5.drew wB.heap.size (fun _ => True) (.slice A' nl c') X) := by
          have h := Kd.R_below HL.out.1 (HB5.out.drew)
          rw [hX] at h
          exact h
        have HC5 : Hid (Kd.C (Kd.int .u8) w5.drew A5 512 H) := Kd.C_below hc5 (below_drew (Below.refl _ _))
        have HXL : Hid (X.length = nl) := by rw [← hX]; exact HNLL.out
        have HBB : Hid (Below wB.heap.size wB w5.drew) := below_drew (below_next HL.out.2.1 HB5.out)
        have HBW : Hid (Below w.heap.size w w5.drew) := below_next HB3.out HBB.out
        have HSB : Hid (wB.heap.size ≤ w5.drew.heap.size) := HBB.out.size
        have HLE1 : Hid ((X.length + 512) * 1 ≤ 140737488355328) := by have := HNB.out; show _ ≤ _; rw [HXL.out]; omega
        have HLE2 : Hid (((X ++ H).length + dl) * 1 ≤ 140737488355328) := by have := HNB.out; show _ ≤ _; rw [List.length_append, HXL.out, HHL.out]; omega
        obtain ⟨PD, hPD⟩ : ∃ PD, (padOf (dl : Int)).toNat = PD := ⟨_, rfl⟩
        have HPD := Lib.hid hPD
        have HPB : Hid (PD ≤ 511) := by show _ ≤ _; rw [← hPD]; unfold padOf; omega
        clear hPD
        have HLE3 : Hid (((X ++ H ++ d).length + PD) * 1 ≤ 140737488355328) := by have := HNB.out; have := HPB.out; show _ ≤ _; rw [List.length_append, List.length_append, HXL.out, HHL.out, HDLN.out]; omega
        have cd5 : w5.drew.cell? (add.add k) = some (.slice Ai dl ci) := pw_cell_below HB5.out.drew cdd
        have HKP : Hid (∀ W', Below wB.heap.size wB W' → W'.cell? (add.add k) = some (.slice Ai dl ci)) := fun W' hb => pw_cell_below hb HCB.out
        clear hX hH cdd cn hc5 hl5
        go_region_held3 (fun w' => w'.cell? (add.add k) = some (.slice Ai dl ci)) (first | exact cd5 | exact HKP.out _ (by assumption)) (first | (go_at_call 16; (with_reducible refine (pad_n dl PD (by omega) HPD.out _).mono ?_); rintro e wp ⟨rfl, rfl⟩) | ((with_reducible refine R_rowsP (w0 := wB) (W := w5.drew) wB.heap.size ?_ (.tmp 80) (.tmp 81) ?_ (.slice A' nl c') X H A5 512 c5 ?_ ?_ HRX.out HC5.out HBB.out HSB.out HLE1.out ?_); rfl; rfl; rfl; rfl; intro v6 w6 ho6 hb6; have HO6 := Lib.hid ho6; have HC6 := Lib.hid (Kd.C_below HCD.out (below_next HB3.out hb6)); have HS6 : Hid (wB.heap.size ≤ w6.heap.size) := hb6.size; clear ho6) | ((with_reducible refine R_rowsP (w0 := wB) (W := w6) wB.heap.size ?_ (.tmp 82) (.tmp 86) ?_ v6 (X ++ H) d Ai dl ci ?_ ?_ HO6.out HC6.out hb6 HS6.out HLE2.out ?_); rfl; rfl; rfl; rfl; intro v7 w7 ho7 hb7; have HO7 := Lib.hid ho7; have HS7 : Hid (wB.heap.size ≤ w7.heap.size) := hb7.size; clear ho7) | ((with_reducible refine R_zerosP (w0 := wB) (W := w7) wB.heap.size ?_ (.tmp 87) (.tmp 93) ?_ v7 (X ++ H ++ d) PD ?_ ?_ HO7.out hb7 HS7.out HLE3.out ?_); rfl; rfl; rfl; rfl; intro v8 w8 ho8 hb8; have HO8 := Lib.hid ho8; have HB8 := Lib.hid hb8; clear ho8))
        go_wp2_with fail
        obtain ⟨A8, c8, hv8⟩ := Kd.R_slice HO8.out
        go_roundg (gk - 1)
        case measure => have := HK.out; omega
        case rel =>
          have hr8 := HO8.out
          have e8 : X ++ H ++ d ++ List.replicate PD 0 = wsL ((names.zip datas).take (k + 1)) := by
            have ht : (names.zip datas).take (k + 1) = (names.zip datas).take k ++ [(nm, d)] := by
              rw [List.take_add_one, HZ.out]
              rfl
            rw [ht, wsL_append, HX.out]
            show _ = X ++ (wsOne (nm, d) ++ [])
            unfold wsOne
            simp only [HDLN.out, HPD.out]
            have hh : hdrL nm ⟨#[]⟩ ⟨#[]⟩ ⟨#[]⟩ ⟨#[]⟩ 48 420 0 0 (dl : Int) 0 = H := HH.out
            rw [hh]
            simp only [List.append_assoc, List.append_nil]
          rw [e8] at hr8 hv8
          rw [hv8] at hr8
          refine ⟨k + 1, A8, _, c8, by have := HK.out; omega, by rw [Int.natCast_add]; rfl, hv8, rfl, ⟨hr8, HB8.out, fun f hf => ?_⟩⟩
          rw [List.take_add_one, HZ.out] at hf
          rcases List.mem_append.1 hf with h | h
          · exact HL.out.2.2 f h
          · have h2 : f ∈ [(nm, d)] := h
            rw [List.mem_singleton.1 h2]
            exact HOK.out
    · have hkn : k = nn := by have := hk; omega
      have hzl : (names.zip datas).length = nn := by rw [List.length_zip, HNL.out, HDL.out, Nat.min_self]
      have htk : (names.zip datas).take k = names.zip datas := List.take_of_length_le (by omega)
      rw [htk] at HL HNLL
      have HLE : Hid (((wsL (names.zip datas)).length + 1024) * 1 ≤ 140737488355328) := by have := HNB.out; show _ ≤ _; rw [HNLL.out]; omega
      have HBR : Hid (Below w.heap.size w wr) := below_next HB3.out HL.out.2.1
      have HIN : Hid (WsIn w NA DA CA nc dc cc nn m names datas cuts) := ⟨HE.out, HG.out, HN.out, HD.out, HC.out, HLC.out, HNL.out, HDL.out, HC.out.1, HN10.out, H50.out, HL.out.2.2⟩
      clear hkn hzl htk hk
      go_upto_region 17 with (fail)
      go_cut [8] (fun v8 wz => ∃ (A8 : Option Addr) (N c8 : Nat), v8 = .slice A8 N c8 ∧ Aside0 (Kd.C (Kd.int .u8) wz A8 N (wsL (names.zip datas) ++ List.replicate 1024 0) ∧ N ≤ c8 ∧ (wsL (names.zip datas) ++ List.replicate 1024 0).length = N ∧ Below w.heap.size w wz))
      case first =>
        go_wp2_with (at_builtin; refine Kd.R_append_zeros (Kd.int .u8) (w0 := wB) wB.heap.size rfl (.tmp 96) (.const (.int .i64 1024)) 32 3 5 _ 1 rfl Tryz.underlying32 Tryz.underlying3 infoU8 rfl (by decide) (by decide) (.slice A' nl c') _ 0 1024 (fun _ => True) rfl rfl rfl (fun _ _ => trivial) HL.out.1 (by decide) HL.out.2.1 HL.out.2.1.size HLE.out ?_; intro v9 w9 ho9 hb9 hg9 hat9; have HO9 := Lib.hid ho9; have HB9 := Lib.hid hb9; clear ho9 hb9 hg9 hat9)
        go_meet
        case rel =>
          have hr9 : Kd.R (Kd.int .u8) 5 w9 wB.heap.size (fun _ => True) v9 (wsL (names.zip datas) ++ List.replicate 1024 0) := HO9.out
          obtain ⟨A9, c9, hv9, hl9, hc9⟩ := Kd.R_reads hr9
          exact ⟨A9, _, c9, hv9, ⟨hc9, hl9, rfl, below_next HB3.out HB9.out⟩⟩
      case rest =>
        obtain ⟨A8, N, c8, rfl, HZ⟩ := hcut
        go_step
        exact ws_rest w _ NA DA CA A8 nc dc cc c8 nn m N names datas cuts _ _ _ _ _ _ _ _ _ _ _ _ _ _ _ _ _ _ _ _ _ _ _ _ _ _ _ _ _ _ _ _ _ _ _ _ _ _ _ _ _ _ _ _ _ _ _ _ _ _ _ _ _ _ _ _ _ _ _ _ _ _ _ _ _ _ _ _ _ _ _ _ _ _ _ _ _ _ _ _ _ _ _ _ _ _ _ _ _ _ _ _ _ _ _ _ _ _ _ _ _ _ _ _ _ _ _ _ _ _ _ _ _ _ _ _ _ _ _ _ _ _ _ _ _ _ _ _ _ _ _ _ _ _ _ _ _ _ _ _ _ _ _ _ _ _ _ _ _ _ _ _ _ _ _ _ _ _ _ _ _ _ _ _ _ _ _ _ _ _ _ _ _ _ _ _ _ _ _ _ _ _ _ _ _ _ _ _ _ _ _ _ _ _ _ _ _ _ _ _ _ _ _ _ _ _ _ _ _ HIN.out HZ.out.2.2.2 HZ.out.1 HZ.out.2.2.1 HZ.out.2.1 rfl
theorem ws_any (NA DA CA : Option Addr) (nn nc dn dc m cc : Nat) (names : List ByteArray) (datas : List (List Int)) (cuts : List Int) (w : World) (he : EnvE w) (hg : w.cell? ⟨0, 0, none⟩ = some etype)
    (hn : Kd.C Kd.string w NA nn names) (hd : Kd.C (Kd.slice 5 (Kd.int .u8)) w DA dn datas) (hc : Kd.C (Kd.int .i64) w CA m cuts) (lc : m ≤ cc) (hr : ∀ d ∈ datas, ∀ x ∈ d, 0 ≤ x ∧ x < 256) :
    Calls Tryz.prog 3 #[.slice NA nn nc, .slice DA dn dc, .slice CA m cc] w (Yes w) := by
  by_cases h : 10 < nn ∨ dn ≠ nn ∨ 50 < m
  · exact ws_early NA DA CA nn nc dn dc m cc w he hg h
  · obtain rfl : dn = nn := by omega
    exact ws_main NA DA CA dn nc dc m cc names datas cuts w he hg hn hd hc lc (by omega) (by omega) hr
end Go.Proofs.YtpbpfngichfgeaaGreatDoor
