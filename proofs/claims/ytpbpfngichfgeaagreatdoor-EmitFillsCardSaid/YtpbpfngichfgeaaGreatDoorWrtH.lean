/-
  The law package's writes, walked over the contract of emit.Entry.
-/
import Derived.Test.YtpbpfngichfgeaaGreatDoorEntE
namespace Go.Proofs.YtpbpfngichfgeaaGreatDoor.PEmit
set_option linter.unusedVariables false
set_option linter.unusedSimpArgs false
open Go Go.RowKit Go.Proofs.YtpbpfngichfgeaaGreatDoor Go.Proofs.YtpbpfngichfgeaaGreatDoorW.PrintWords Go.Proofs.YtpbpfngichfgeaaGreatDoorW.PrintLast Go.Proofs.YtpbpfngichfgeaaGreatDoorW.PrintMore

def s101 : ByteArray := ⟨(List.replicate 101 97).toArray⟩
theorem long_ok : pannierlaw18_long.f 220 101 = some s101 := by decide +kernel
theorem w_one : (emit_Entry.f 3 ⟨#[97]⟩ ⟨#[]⟩ 1 420 0 0 0 0 ⟨#[]⟩ ⟨#[]⟩).map (fun r => (r.1.length, r.2)) = some (512, 0) := by decide +kernel
theorem w_two : (emit_Entry.f 3 s101 ⟨#[]⟩ 4 0 0 0 0 0 ⟨#[]⟩ ⟨#[]⟩).map (fun r => (r.1.length, r.2)) = some (1536, 0) := by decide +kernel
theorem ent_const (p : ByteArray) (kd md : Int) (n : Nat) (hp : p.size ≤ 5000) (h : (emit_Entry.f 3 p ⟨#[]⟩ kd md 0 0 0 0 ⟨#[]⟩ ⟨#[]⟩).map (fun r => (r.1.length, r.2)) = some (n, 0)) (w : World) (he : EnvE w) :
    Calls Tryz.prog 28 #[.agg #[.string p, .string ⟨#[]⟩, .int .i64 kd, .int .i64 md, .int .i64 0, .int .i64 0, .int .i64 0, .int .i64 0, .string ⟨#[]⟩, .string ⟨#[]⟩]] w (fun e w' => ∃ A c, e = .returned (.tuple #[.slice A n c, .int .i64 0]) ∧ Below w.heap.size w w') := by
  refine (entry_any p ⟨#[]⟩ ⟨#[]⟩ ⟨#[]⟩ kd md 0 0 0 0 hp (by decide) (by decide) (by decide) (by decide) (by decide) (by decide) (by decide) w he).mono fun e w' ⟨v0, bs, c, h1, h2, h3, h4, h5⟩ => ?_
  rw [h5] at h
  simp only [Option.map_some, Option.some.injEq, Prod.mk.injEq] at h
  obtain ⟨h6, rfl⟩ := h
  obtain ⟨A, cc, hv⟩ := Kd.R_slice h2
  rw [h6] at hv
  subst hv
  exact ⟨A, cc, h1, h3⟩
set_option maxHeartbeats 8000000 in
set_option maxRecDepth 100000 in
theorem writes_any (w : World) (he : EnvE w) : Calls Tryz.prog 27 #[] w (fun e w' => e = .returned (.bool true) ∧ Below w.heap.size w w') := by
  have HE := Lib.hid he
  have C1 : Hid (∀ W, EnvE W → _) := fun W hW => ent_const ⟨#[97]⟩ 1 420 512 (by decide) w_one W hW
  have C2 : Hid (∀ W, EnvE W → _) := fun W hW => ent_const s101 4 0 1536 (by decide) w_two W hW
  have FILL : Hid (∀ W, Calls Tryz.prog 29 #[.int .i64 5] W (fun e w' => ∃ A c, e = .returned (.slice A 507 c) ∧ Below W.heap.size W w')) := fun W => (emit_Fill.calls 5 (List.replicate 507 0) W (by exact fill_some 5 (by decide))).mono fun e w' ⟨v, h1, h2, h3⟩ => by
    obtain ⟨A, c, hv⟩ := Kd.R_slice h2
    have hv : v = .slice A 507 c := hv
    subst hv
    exact ⟨A, c, h1, h3⟩
  have FEND : Hid (∀ W, Calls Tryz.prog 30 #[] W (fun e w' => ∃ A c, e = .returned (.slice A 1024 c) ∧ Below W.heap.size W w')) := fun W => (emit_End.calls (List.replicate 1024 0) W (by unfold emit_End.f; rw [if_pos (by decide)])).mono fun e w' ⟨v, h1, h2, h3⟩ => by
    obtain ⟨A, c, hv⟩ := Kd.R_slice h2
    rw [List.length_replicate] at hv
    subst hv
    exact ⟨A, c, h1, h3⟩
  have HL : Hid (∀ W, Calls Tryz.prog 51 #[.int .i64 101] W (fun e w' => e = .returned (.string s101) ∧ Below W.heap.size W w')) := fun W => pannierlaw18_long.calls 220 101 s101 W long_ok
  clear he
  go_enter Tryz.func27, Tryz.ntmps27
  generalize hs : s101 = S at HL C2
  clear hs
  go_upto_region 2 with (go_at_call 28; (with_reducible refine (C1.out _ HE.out).mono ?_); rintro e w1 ⟨A1, c1, rfl, hb1⟩; have HB1 := Lib.hid hb1; clear hb1)
  go_upto_region 3 with (first | (go_at_call 51; (with_reducible refine (HL.out _).mono ?_); rintro e w2 ⟨rfl, hb2⟩; have HB2 := Lib.hid (below_next HB1.out hb2); clear hb2) | (go_at_call 28; (with_reducible refine (C2.out _ (HE.out.below HB2.out)).mono ?_); rintro e w3 ⟨A3, c3, rfl, hb3⟩; have HB3 := Lib.hid (below_next HB2.out hb3); clear hb3))
  go_wp2_with (first | (go_at_call 29; (with_reducible refine (FILL.out _).mono ?_); rintro e w4 ⟨A4, c4, rfl, hb4⟩; have HB4 := Lib.hid (below_next HB3.out hb4); clear hb4) | (go_at_call 30; (with_reducible refine (FEND.out _).mono ?_); rintro e w5 ⟨A5, c5, rfl, hb5⟩; have HB5 := Lib.hid (below_next HB4.out hb5); clear hb5))
  go_ret
  exact ⟨rfl, HB5.out⟩
end Go.Proofs.YtpbpfngichfgeaaGreatDoor.PEmit
