/-
  A region that draws its order, with appends of rows of bytes beside calls that make rows of bytes.
-/
import Derived.Test.YtpbpfngichfgeaaGreatDoorFedR
namespace Go.Proofs.YtpbpfngichfgeaaGreatDoor
set_option linter.unusedVariables false
set_option linter.unusedSectionVars false
set_option linter.unusedSimpArgs false
open Go Go.RowKit Go.Proofs.YtpbpfngichfgeaaGreatDoorW.PrintWords Go.Proofs.YtpbpfngichfgeaaGreatDoorW.PrintLast Go.Proofs.YtpbpfngichfgeaaGreatDoorW.PrintMore

abbrev RU (w : World) (base : Nat) (v : Value) (xs : List Int) : Prop := Kd.R (Kd.int .u8) 5 w base (fun _ => True) v xs
/-- The row that is appended to, and the rows that calls have made. -/
structure RG (wB W : World) (v : Value) (xs : List Int) (fs : List (Value × List Int)) : Prop where
  b : Below wB.heap.size wB W
  r : RU W wB.heap.size v xs
  f : ∀ p ∈ fs, RU W wB.heap.size p.1 p.2 ∧ ∀ k, v.ownBlock = some k → p.1.ownBlock ≠ some k
section
variable {wB W w1 : World} {v v1 : Value} {xs ys : List Int} {fs : List (Value × List Int)}
theorem RU_lt (h : RU W wB.heap.size v xs) : ∀ k, v.ownBlock = some k → k < W.heap.size := by
  intro k hk
  obtain ⟨inner, ho⟩ := Kd.R_own h
  exact own_lt ho k hk
theorem RG.made (h : RG wB W v xs fs) {vF : Value} (hb : Below W.heap.size W w1) (hF : RU w1 W.heap.size vF ys) : RG wB w1 v xs ((vF, ys) :: fs) := by
  refine ⟨below_then h.b h.b.size hb, Kd.R_below h.r hb, fun p hp => ?_⟩
  rcases List.mem_cons.1 hp with rfl | hp
  · refine ⟨Kd.R_lower hF h.b.size, fun k hk hq => ?_⟩
    have h1 := RU_lt h.r k hk
    have h2 := Kd.R_base hF k hq
    omega
  · exact ⟨Kd.R_below (h.f p hp).1 hb, (h.f p hp).2⟩
theorem RG.grown (h : RG wB W v xs fs) {zs : List Int} (hr : RU w1 wB.heap.size v1 zs) (hb : Below wB.heap.size wB w1) (hg : W.grownBy w1 v.ownBlock) (hat : v1.ownBlock = v.ownBlock ∨ ∃ b, v1.ownBlock = some b ∧ W.heap.size ≤ b) : RG wB w1 v1 zs fs := by
  refine ⟨hb, hr, fun p hp => ?_⟩
  obtain ⟨h1, h2⟩ := h.f p hp
  refine ⟨?_, fun k hk hq => ?_⟩
  · have hE : (Kd.int .u8).E = [] := rfl
    exact Kd.R_mono (Kd.R_grown (Kd.R_tight hE h1) hg (fun k hk hq => h2 k hq.symm hk.symm)) (fun _ _ => trivial)
  · rcases hat with e | ⟨b, e, hlt⟩
    · exact h2 k (by rw [← e]; exact hk) hq
    · rw [e] at hk
      have := RU_lt h1 k hq
      injection hk with hk
      omega
variable {ops : Array Oper} {o : Oper} {a : Act} {Q : Exit → Act → World → Prop} {Kc : Act → World → Prop} {E : Prop}
theorem RG.app (h : RG wB W v xs fs) (hw : o.guard = none) (s x : Operand) (ho : o.op = .call { callee := .builtin .append, args := #[s, x], argTypes := #[32, 32] })
    (A : Option Addr) (m c : Nat) (hs : a.eval s = v) (hx : a.eval x = .slice A m c) (HR : Kd.C (Kd.int .u8) W A m ys) (hl : (xs.length + m) * 1 ≤ 140737488355328)
    (k : ∀ v1 w1, RG wB w1 v1 (xs ++ ys) fs → Kc (a.put o.dst v1) w1) : if Region.wanted o (yielded ops a.tmps) = true then Oper.wp Tryz.prog o a W Kc Q else E := by
  have hwt : Region.wanted o (yielded ops a.tmps) = true := by simp [Region.wanted, hw]
  have q := Kd.R_append_rows_step (P := Tryz.prog) (Kd.int .u8) (Rr := (Kd.int .u8).K W) (w0 := wB) (W := W) (Q := Q) (Kc := Kc) wB.heap.size hwt s x 32 5 _ 1 ho Tryz.underlying32 infoU8 (by rfl) (by decide) (by decide) v xs ys A m c (fun _ => True) (fun _ => False) hs hx h.r HR (fun _ _ hh => hh) (fun _ hk => hk.elim) (fun _ _ => trivial) h.b h.b.size hl (fun v1 w1 h1 h2 h3 h4 => k v1 w1 (h.grown h1 h2 h3 h4))
  rw [if_pos hwt] at q ⊢
  exact q
/-- The row of a call is appended. -/
theorem RG.appF (h : RG wB W v xs fs) (hw : o.guard = none) (s x : Operand) (ho : o.op = .call { callee := .builtin .append, args := #[s, x], argTypes := #[32, 32] })
    (vF : Value) (hF : (vF, ys) ∈ fs) (hs : a.eval s = v) (hx : a.eval x = vF) (hl : (xs.length + ys.length) * 1 ≤ 140737488355328)
    (k : ∀ v1 w1, RG wB w1 v1 (xs ++ ys) fs → Kc (a.put o.dst v1) w1) : if Region.wanted o (yielded ops a.tmps) = true then Oper.wp Tryz.prog o a W Kc Q else E := by
  obtain ⟨A, c, hv, _, hc⟩ := Kd.R_reads (h.f _ hF).1
  have hv : vF = .slice A ys.length c := hv
  exact h.app hw s x ho A ys.length c hs (hx.trans hv) hc hl k
end
end Go.Proofs.YtpbpfngichfgeaaGreatDoor
