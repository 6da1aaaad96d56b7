/-
  The law package's reads, walked: it answers true.
-/
import Derived.Test.YtpbpfngichfgeaaGreatDoorPushEL
namespace Go.Proofs.YtpbpfngichfgeaaGreatDoor
set_option linter.unusedVariables false
set_option linter.unusedSectionVars false
set_option linter.unusedSimpArgs false
open Go Go.RowKit Go.Proofs.YtpbpfngichfgeaaGreatDoorW.PrintWords Go.Proofs.YtpbpfngichfgeaaGreatDoorW.PrintLast Go.Proofs.YtpbpfngichfgeaaGreatDoorW.PrintMore

def readsB : List Int := hdrL ⟨#[97]⟩ ⟨#[]⟩ ⟨#[]⟩ ⟨#[]⟩ ⟨#[]⟩ 48 420 0 0 2 0 ++ [104, 105] ++ List.replicate 1534 0
def readsOk (r : PSt) : Bool := decide (r.err = none) && r.done && (match r.out with
  | [⟨.beg e, _⟩, ⟨.dat d, _⟩, ⟨.fin, _⟩, ⟨.don, _⟩] => decide (e.path = ⟨#[97]⟩) && decide (d = [104, 105])
  | _ => false)
set_option maxRecDepth 100000 in
theorem reads_feed : readsOk (ps0.feed readsB) = true := by decide +kernel
theorem readsOk_ {r : PSt} (h : readsOk r = true) : r.err = none ∧ r.done = true ∧ ∃ e a0 a1 a2 a3, e.path = ⟨#[97]⟩ ∧ r.out = [⟨.beg e, a0⟩, ⟨.dat [104, 105], a1⟩, ⟨.fin, a2⟩, ⟨.don, a3⟩] := by
  unfold readsOk at h
  simp only [Bool.and_eq_true, decide_eq_true_eq] at h
  obtain ⟨⟨h1, h2⟩, h3⟩ := h
  refine ⟨h1, h2, ?_⟩
  split at h3
  · rename_i e a0 d a1 a2 a3 ho
    simp only [Bool.and_eq_true, decide_eq_true_eq] at h3
    exact ⟨e, a0, a1, a2, a3, h3.1, by rw [ho, h3.2]⟩
  · cases h3
theorem readsFits : HdrFits ⟨#[97]⟩ ⟨#[]⟩ ⟨#[]⟩ ⟨#[]⟩ ⟨#[]⟩ 48 420 0 0 2 0 := ⟨by decide +kernel, by unfold octFits; decide, by decide, by decide⟩
theorem readsB_range : ∀ x ∈ readsB, 0 ≤ x ∧ x < 256 := by
  intro x hx
  unfold readsB at hx
  rcases List.mem_append.1 hx with h | h
  · rcases List.mem_append.1 h with h | h
    · exact hdrL_range readsFits x h
    · simp at h; omega
  · rw [List.eq_of_mem_replicate h]; omega
theorem readsB_len : readsB.length = 2048 := by
  unfold readsB
  rw [List.length_append, List.length_append, hdrL_length readsFits, List.length_replicate]
  rfl
/-- What Feed does with bytes at a new parser. -/
theorem feed_new (w : World) (he : EnvE w) (A : Option Addr) (c : Nat) (xs : List Int) (ok : Nat → Prop) (h : Kd.R (Kd.int .u8) 5 w 0 ok (.slice A xs.length c) xs) (hb : ∀ x ∈ xs, 0 ≤ x ∧ x < 256) (hl : xs.length ≤ 1000000) :
    Calls Tryz.prog 17 #[.pointer (some ⟨w.heap.size, 0, none⟩), .slice A xs.length c] (w.alloc (.cells newCells 77)) (Fed (w.alloc (.cells newCells 77)) (fun k => k = w.heap.size) w.heap.size (ps0.feed xs)) := by
  have hb1 := below_alloc (Below.refl w.heap.size w) (.cells newCells 77)
  have r1 := Kd.R_below h hb1
  have hlt := Kd.R_lt h
  refine feed_any _ _ _ _ ps0 A c xs (he.below hb1) (fun k hk => by rw [hk]; exact ng_of_env he) (ps0.feed xs) ⟨⟨_, _, _, _, _, PSx.new w⟩, wfs0, wfm0, in_of_R r1 (fun k hk e => by have := hlt k hk; omega), hb, (Kd.R_reads' r1).2.1, Nat.le_refl _, ?_, ?_, rfl⟩ rfl
  · show (0 : Int) + xs.length ≤ _; omega
  · show 0 + 2 * xs.length ≤ _; omega
theorem frm_below {F0 : Nat → Prop} {B : Nat} {w w1 w2 : World} (h : Below B w w1) (hf : Frm F0 w1 w2) (hF : ∀ k, F0 k → B ≤ k) (hB : B ≤ w.heap.size := by omega) : Below B w w2 :=
  ⟨hf.os.trans h.os, hf.tape.trans h.tape, hf.output.trans h.output, Nat.le_trans h.size hf.size, fun k hk => (hf.block k (by have := h.size; omega) (fun q => by have := hF k q; omega)).trans (h.block k hk)⟩
set_option maxHeartbeats 8000000 in
set_option maxRecDepth 100000 in
theorem reads_any (w : World) (he : EnvE w) : Calls Tryz.prog 19 #[] w (fun e w' => e = .returned (.bool true) ∧ Below w.heap.size w w') := by
  have HH := Lib.hid (head_any 0 ⟨#[97]⟩ ⟨#[]⟩ ⟨#[]⟩ ⟨#[]⟩ ⟨#[]⟩ 48 420 0 0 2 0 w readsFits)
  have HE := Lib.hid he
  clear he
  go_enter Tryz.func19, Tryz.ntmps19
  go_upto_region 4 with (go_at_call 15; (with_reducible refine HH.out.mono ?_); rintro e w1 ⟨v1, rfl, hR1, hb1⟩; have HR1 := Lib.hid hR1; have HB1 := Lib.hid hb1; clear hR1 hb1)
  clear HH
  have HO1 : Hid (w1.ownsRow w.heap.size 5 1 v1 (hdrL ⟨#[97]⟩ ⟨#[]⟩ ⟨#[]⟩ ⟨#[]⟩ ⟨#[]⟩ 48 420 0 0 2 0).length (nums .u8 (hdrL ⟨#[97]⟩ ⟨#[]⟩ ⟨#[]⟩ ⟨#[]⟩ ⟨#[]⟩ 48 420 0 0 2 0))) := Kd.own_of_R HR1.out
  have HS1 : Hid (w.heap.size ≤ w1.heap.size) := HB1.out.size
  have HLN : Hid ((hdrL ⟨#[97]⟩ ⟨#[]⟩ ⟨#[]⟩ ⟨#[]⟩ ⟨#[]⟩ 48 420 0 0 2 0).length + (⟨#[104, 105]⟩ : ByteArray).size ≤ 140737488355328) := by show _ ≤ _; rw [hdrL_length readsFits]; decide
  go_upto_region 5 with (first | (at_builtin; refine print_append_str (w0 := w) w.heap.size rfl (.tmp 12) (.const (.string ⟨#[104, 105]⟩)) 32 9 5 rfl Tryz.underlying32 Tryz.underlying9 infoU8 v1 _ ⟨#[104, 105]⟩ rfl rfl HO1.out HB1.out HS1.out HLN.out ?_; intro v2 w2 ho2 hb2 hg2; have HO2 := Lib.hid ho2; have HB2 := Lib.hid hb2; clear ho2 hb2 hg2) | (at_builtin; refine Kd.R_append_zeros (Kd.int .u8) (w0 := w) w.heap.size rfl (.tmp 13) (.const (.int .i64 1534)) 32 3 5 _ 1 rfl Tryz.underlying32 Tryz.underlying3 infoU8 rfl (by decide) (by decide) v2 _ 0 1534 (fun _ => True) rfl rfl rfl (fun _ _ => trivial) (Kd.R_of_own HO2.out (fun _ _ => trivial)) (by decide) HB2.out HB2.out.size (by rw [List.length_append, hdrL_length readsFits]; decide) ?_; intro v3 w3 ho3 hb3 hg3 hat3; have HO3 := Lib.hid ho3; have HB3 := Lib.hid hb3; clear ho3 hb3 hg3 hat3))
  have HO4 : Hid (Kd.R (Kd.int .u8) 5 w3 0 (fun _ => True) v3 readsB) := Kd.R_lower HO3.out (Nat.zero_le _)
  obtain ⟨A3, c3, hv3⟩ := Kd.R_slice HO4.out
  rw [hv3] at HO4 ⊢
  have HFD := Lib.hid (feed_new w3 (HE.out.below HB3.out) A3 c3 readsB _ HO4.out readsB_range (by rw [readsB_len]; omega))
  obtain ⟨r1, r2, en, a0, a1, a2, a3, hpath, hout⟩ := readsOk_ reads_feed
  obtain ⟨r, hr⟩ : ∃ r, ps0.feed readsB = r := ⟨_, rfl⟩
  obtain ⟨n, hn⟩ : ∃ n, readsB.length = n := ⟨_, rfl⟩
  rw [hr] at HFD r1 r2 hout
  rw [hn] at HFD ⊢
  have HEND : Hid (errV ({ r with out := [] } : PSt).endE = .nilIface) := by
    show _ = _
    unfold PSt.endE
    simp [r1, r2]
  have HOUT := Lib.hid hout
  have HPATH := Lib.hid hpath
  clear HO1 HS1 HLN HO2 HB2 HO3 HO4 HR1 HB1 hv3 hr hn r1 r2 hout hpath
  go_upto_region 9 with (first | (go_at_call 12; (with_reducible refine (new_any w3).mono ?_); rintro e w4 ⟨rfl, rfl⟩) | (go_at_call 17; (with_reducible refine HFD.out.mono ?_); rintro e w5 ⟨vb, vt, vg, vl, vo, rfl, hP, hEv⟩))
  rw [HOUT.out] at hEv
  obtain ⟨G, cap, hvo, _, _, _⟩ := Kd.R_form hEv (by simp)
  have hlen : ([⟨.beg en, a0⟩, ⟨.dat [104, 105], a1⟩, ⟨.fin, a2⟩, ⟨.don, a3⟩] : List Evt).length = 4 := rfl
  rw [hlen] at hvo
  subst hvo
  obtain ⟨vd0, q0, _⟩ := ev_at hEv 0 (by omega) _ rfl
  obtain ⟨vd1, q1, hR1⟩ := ev_at hEv 1 (by omega) _ rfl
  obtain ⟨vd3, q3, _⟩ := ev_at hEv 3 (by omega) _ rfl
  obtain ⟨Ad, cd, hvd, _, hCd⟩ := Kd.R_reads hR1
  have y0 : w5.cell? ⟨G, 0, none⟩ = some (.int .i64 1) := q0 0 _ rfl
  have y1 : w5.cell? ⟨G, 1, none⟩ = some (.string ⟨#[97]⟩) := by rw [← HPATH.out]; exact q0 1 _ rfl
  have y2 : w5.cell? ⟨G, 25, none⟩ = some (.slice Ad 2 cd) := by rw [show (Value.slice Ad 2 cd) = vd1 from hvd.symm]; exact q1 11 _ rfl
  have y3 : w5.cell? ⟨G, 42, none⟩ = some (.int .i64 4) := q3 0 _ rfl
  have hcv : (convert 32 9 (.slice Ad 2 cd)).run Tryz.prog w5 = .ok (.string ⟨#[104, 105]⟩) w5 := Kd.C_string Tryz.underlying32 Tryz.underlying5 Tryz.underlying9 hCd
  have HB5 : Hid (Below w.heap.size w w5) := frm_below ((below_next HB3.out (below_alloc (Below.refl _ _) _))) hP.fr (fun k hk => by rw [hk]; exact HB3.out.size)
  have HEN := Lib.hid (end_any _ _ w5 _ _ _ _ _ _ _ hP)
  rw [HEND.out] at HEN
  clear hEv hlen q0 q1 q3 hR1 hCd hvd HOUT HPATH HFD HEND hP
  go_wp2_with ((go_at_call 14; (with_reducible refine HEN.out.mono ?_); rintro e w6 ⟨rfl, rfl⟩))
  go_ret
  exact ⟨rfl, HB5.out⟩
end Go.Proofs.YtpbpfngichfgeaaGreatDoor
