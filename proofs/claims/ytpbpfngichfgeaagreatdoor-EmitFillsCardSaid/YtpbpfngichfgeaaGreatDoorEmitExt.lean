/-
 The contracts of what emit.Entry calls, in the form in which the printed texts (wip/print2) ask for them.
-/
import Derived.Test.YtpbpfngichfgeaaGreatDoorPEmitx0
import Derived.Test.YtpbpfngichfgeaaGreatDoorPaxes
import Derived.Test.YtpbpfngichfgeaaGreatDoorSplitR
namespace Go.Proofs.YtpbpfngichfgeaaGreatDoor
set_option linter.unusedVariables false
open Go Go.RowKit Go.Proofs.YtpbpfngichfgeaaGreatDoorW.PrintWords Go.Proofs.YtpbpfngichfgeaaGreatDoorW.PrintLast Go.Proofs.YtpbpfngichfgeaaGreatDoorW.PrintMore
theorem SplitEnd.tuple {X : Array Value} {L : List KV} {w : World} {e : Ending} {w' : World} (h : SplitEnd X L w e w') : ∃ v, e = .returned (.tuple #[.agg X, v]) ∧ Kd.R kKV 66 w' w.heap.size (fun _ => True) v (recsK L 8) ∧ Below w.heap.size w w' := h
theorem SealEnd.tuple {l : List Int} {w : World} {e : Ending} {w' : World} (h : SealEnd l w e w') : ∃ v, e = .returned (.tuple #[v, .int .i64 0]) ∧ Kd.R (Kd.int .u8) 5 w' w.heap.size (fun _ => True) v l ∧ Below w.heap.size w w' := h
end Go.Proofs.YtpbpfngichfgeaaGreatDoor
namespace Go.Proofs.YtpbpfngichfgeaaGreatDoor.PEmit
set_option linter.unusedVariables false
set_option linter.unusedSimpArgs false
open Go.RowKit Go.Proofs.YtpbpfngichfgeaaGreatDoor Go.Proofs.YtpbpfngichfgeaaGreatDoorW.PrintWords Go.Proofs.YtpbpfngichfgeaaGreatDoorW.PrintLast Go.Proofs.YtpbpfngichfgeaaGreatDoorW.PrintMore

def strings_Contains.f (a0 a1 : ByteArray) : Option Bool := if a1 = ⟨#[0]⟩ then some (has0 a0) else none
theorem strings_Contains.calls (a0 a1 : ByteArray) (r : Bool) (w : World) (hE_ : EnvE w) (h : strings_Contains.f a0 a1 = some r) :
  Calls Tryz.prog 58 #[.string a0, .string a1] w fun e w' => e = .returned (.bool r) ∧ Below w.heap.size w w' := by
 unfold strings_Contains.f at h
 split at h
 ·rename_i he
  subst he
  have h2 := Option.some.inj h
  subst h2
  exact (Tryz.strings_Contains_one a0 0 w).mono fun e w' ⟨a, b⟩ => ⟨a, by subst b; exact Below.refl _ _⟩
 ·cases h
abbrev InI (x : Int) : Prop := -9223372036854775808 ≤ x ∧ x ≤ 9223372036854775807
abbrev HdrT := Int × ByteArray × ByteArray × ByteArray × ByteArray × ByteArray × Int × Int × Int × Int × Int × Int × List KV
def emit_split.f (path link : ByteArray) (kd md uid gid mt sz : Int) (user group : ByteArray) : Option HdrT :=
 if InI uid ∧ InI gid ∧ InI sz ∧ InI mt then
  (POct.kind_Type.f kd).bind fun typ => (POct.head_Split.f (2 * path.size + 10) path).bind fun s =>
   some (0, (if s.2.2 then s.2.1 else ⟨#[108, 111, 110, 103]⟩), tv link 100, (if s.2.2 then s.1 else ⟨#[]⟩), tv user 31, tv group 31, typ, md, nv uid 8, nv gid 8, nv sz 12, nv mt 12,
    recsK (lN (lT (if s.2.2 then [] else [(⟨#[112, 97, 116, 104]⟩, path)]) link user group 3) uid gid sz mt 4) 8)
 else none
theorem emit_split.calls (path link : ByteArray) (kd md uid gid mt sz : Int) (user group : ByteArray) (r1 : Int) (r2 r3 r4 r5 r6 : ByteArray) (r7 r8 r9 r10 r11 r12 : Int) (r13 : List KV) (w : World) (hE_ : EnvE w)
  (h : emit_split.f path link kd md uid gid mt sz user group = some (r1, r2, r3, r4, r5, r6, r7, r8, r9, r10, r11, r12, r13)) :
  Calls Tryz.prog 53 #[.agg #[.string path, .string link, .int .i64 kd, .int .i64 md, .int .i64 uid, .int .i64 gid, .int .i64 mt, .int .i64 sz, .string user, .string group]] w fun e w' => ∃ v0_ : Value, e = .returned (.tuple #[.agg #[.int .i64 r1, .string r2, .string r3, .string r4, .string r5, .string r6, .int .u8 r7, .int .i64 r8, .int .i64 r9, .int .i64 r10, .int .i64 r11, .int .i64 r12], v0_]) ∧ Kd.R kKV 66 w' w.heap.size (fun _ => True) v0_ r13 ∧ Below w.heap.size w w' := by
 unfold emit_split.f at h
 split at h
 ·rename_i hr
  cases ht : POct.kind_Type.f kd with
  | none => rw [ht] at h; cases h
  | some typ =>
   rw [ht] at h
   simp only [Option.bind_some] at h
   cases hs : POct.head_Split.f (2 * path.size + 10) path with
   | none => rw [hs] at h; cases h
   | some s =>
    obtain ⟨pr, nm, b⟩ := s
    rw [hs] at h
    simp only [Option.bind_some, Option.some.injEq, Prod.mk.injEq] at h
    obtain ⟨rfl, rfl, rfl, rfl, rfl, rfl, rfl, rfl, rfl, rfl, rfl, rfl, rfl⟩ := h
    exact (split_any w path link kd md uid gid mt sz user group _ nm pr b _ hE_.env hr ht hs).mono fun e w' q => q.tuple
 ·cases h
def hdrFitsB (name link pre user group : ByteArray) (typ mode uid gid size mtime : Int) : Bool :=
 (List.range 5).all (fun k => decide (POct.head_Fits.f (tabS name link pre user group k) ((tabTo k : Int) - (tabFr k : Int)) = some true)) && (List.range 5).all (fun k => decide (0 ≤ numN mode uid gid size mtime k ∧ numN mode uid gid size mtime k < 8 ^ (numWd k - 1))) && (decide (0 ≤ typ) && decide (typ < 256))
theorem hdrFitsB_iff (name link pre user group : ByteArray) (typ mode uid gid size mtime : Int) : hdrFitsB name link pre user group typ mode uid gid size mtime = true ↔ HdrFits name link pre user group typ mode uid gid size mtime := by
 unfold hdrFitsB
 simp only [Bool.and_eq_true, List.all_eq_true, List.mem_range, decide_eq_true_eq]
 exact ⟨fun ⟨⟨a, b⟩, c, d⟩ => ⟨a, b, c, d⟩, fun h => ⟨⟨h.texts, h.nums⟩, h.t0, h.t1⟩⟩
def head_Encode.f (form : Int) (name link pre user group : ByteArray) (typ mode uid gid size mtime : Int) : Option (List Int × Int) :=
 if hdrFitsB name link pre user group typ mode uid gid size mtime = true then some (hdrL name link pre user group typ mode uid gid size mtime, 0) else none
theorem head_Encode.calls (form : Int) (name link pre user group : ByteArray) (typ mode uid gid size mtime : Int) (r1 : List Int) (r2 : Int) (w : World) (hE_ : EnvE w) (h : head_Encode.f form name link pre user group typ mode uid gid size mtime = some (r1, r2)) :
  Calls Tryz.prog 15 #[.agg #[.int .i64 form, .string name, .string link, .string pre, .string user, .string group, .int .u8 typ, .int .i64 mode, .int .i64 uid, .int .i64 gid, .int .i64 size, .int .i64 mtime]] w fun e w' => ∃ v0_ : Value, e = .returned (.tuple #[v0_, .int .i64 r2]) ∧ Kd.R (Kd.int .u8) 5 w' w.heap.size (fun _ => True) v0_ r1 ∧ Below w.heap.size w w' := by
 unfold head_Encode.f at h
 split at h
 ·rename_i hf
  have h2 := Option.some.inj h
  simp only [Prod.mk.injEq] at h2
  obtain ⟨rfl, rfl⟩ := h2
  exact (head_any form name link pre user group typ mode uid gid size mtime w ((hdrFitsB_iff _ _ _ _ _ _ _ _ _ _ _).1 hf)).mono fun e w' q => q.tuple
 ·cases h
def intsOf (l : List UInt8) : List Int := l.map fun b => (b.toNat : Int)
def pax_Encode.f (l0 : List KV) : Option (List Int × Int) := if (∀ x ∈ l0, x.1.size ≤ 1000000 ∧ x.2.size ≤ 1000000) then some (intsOf (encOf l0).1, (encOf l0).2) else none
theorem recC_of {w : World} {A : Option Addr} {l : List KV} (h : Kd.C kKV w A l.length l) : RecC w A l := by
 intro i hi
 have at0 : ∀ i, i < l.length → ∃ ad : Addr, A = some ad ∧ w.cell? (ad.add (i * 2 + 0)) = some (.string (l.getD i default).1) ∧ w.cell? (ad.add (i * 2 + 1)) = some (.string (l.getD i default).2) := by
  intro i hi
  obtain ⟨ad, c, e, hlc, hk, hcell⟩ := ReadsRow.get_ h (default : KV) (i : Int) (by omega) (by omega)
  obtain ⟨c0, c1, rfl, h0, h1⟩ := hk
  obtain rfl : c0 = [.string (l.getD i default).1] := h0
  obtain rfl : c1 = [.string (l.getD i default).2] := h1
  exact ⟨ad, e, hcell 0 _ rfl, hcell 1 _ rfl⟩
 obtain ⟨ad, e, h0, h1⟩ := at0 i hi
 obtain ⟨ad', e', h0', _⟩ := at0 0 (by omega)
 obtain rfl : ad' = ad := by rw [e] at e'; exact (Option.some.inj e').symm
 obtain ⟨b, off, sp⟩ := ad'
 have hsp : sp = none := by
  simp only [Nat.zero_mul, Addr.add, if_true] at h0'
  unfold World.cell? at h0'
  split at h0'
  ·cases sp with
   | none => rfl
   | some _ => simp at h0'
  ·cases h0'
 subst hsp
 have hlt := World.block_lt_of_cell? w _ h0'
 have ea : ∀ k, (Addr.add ⟨b, off, none⟩ k) = ⟨b, off + k, none⟩ := by
  intro k
  unfold Addr.add
  split
  ·rename_i h; rw [h]; rfl
  ·rfl
 simp only [ea] at h0 h1
 refine ⟨b, off, e, ?_, h0, h1⟩
 simpa [Addr.add] using hlt
theorem v_of_bytes {w w' : World} {v : Value} {l : List UInt8} (h : BytesAt w w' v l) (hl : l.length ≤ 9223372036854775807) : Kd.V (Kd.int .u8) 5 w' w.heap.size (fun k_ => w.heap.size ≤ k_) v (intsOf l) := by
 obtain ⟨A, c, rfl, hc, h⟩ := h
 have e : l.length = (intsOf l).length := by simp [intsOf]
 rw [e]
 refine Kd.V_mk (by rw [← e]; exact hc) ?_
 intro W' hW
 refine ⟨rfl, by rw [← e]; exact hl, fun h0 => ?_⟩
 rcases h with rfl | ⟨g, cs, t, fr, rfl, hg, hh, hcs⟩
 ·simp [intsOf] at h0
 ·refine ⟨_, rfl, fun j p hp => ⟨[.int .u8 p], rfl, rfl, fun i u hu => ?_⟩⟩
  have hlt : g < w'.heap.size := (Array.getElem?_eq_some_iff.1 hh).1
  have hh' := (hW g hg hlt).trans hh
  obtain rfl : i = 0 := by rcases i with _ | i; rfl; simp at hu
  have hj : j < l.length := by
   have := (List.getElem?_eq_some_iff.1 hp).1
   rw [e]; exact this
  have h3 := hcs j hj
  have hpv : p = ((l.getD j 0).toNat : Int) := by
   have h4 : (intsOf l)[j]? = some ((l.getD j 0).toNat : Int) := by simp [intsOf, hj]
   rw [h4] at hp
   exact (Option.some.inj hp).symm
  obtain rfl : u = .int .u8 p := by simpa using hu.symm
  have ea : (Addr.add ⟨g, 0, none⟩ (j * 1 + 0)) = ⟨g, j, none⟩ := by
   unfold Addr.add
   split
   ·rename_i h; simp at h; rw [h]
   ·simp
  show W'.cell? (Addr.add ⟨g, 0, none⟩ (j * 1 + 0)) = _
  rw [ea]
  unfold World.cell?
  rw [hh']
  simp only
  rw [hpv]
  simpa using h3
theorem r_string_d {P : Program} {w : World} {base e' : Nat} {ok : Nat → Prop} {src dst e : TypeId} {v : Value} {xs : List Int} (hs : P.underlying src = some (.slice e)) (he : P.underlying e = some (.int .u8)) (hd : P.underlying dst = some .string)
  (h : Kd.R (Kd.int .u8) e' w base ok v xs) (n : Nat) : (convert src dst v).run P (w.drewN n) = .ok (.string (strOfNums xs)) (w.drewN n) :=
 own_string (w := w.drewN n) hs he hd (Kd.own_of_R (Kd.R_drewN h n))
theorem pax_Encode.calls (A0 : Option Addr) (c0 : Nat) (l0 : List KV) (r1 : List Int) (r2 : Int) (w : World) (hr0 : Kd.C kKV w A0 l0.length l0) (hc0 : l0.length ≤ c0) (hE_ : EnvE w) (h : pax_Encode.f l0 = some (r1, r2)) :
  Calls Tryz.prog 26 #[.slice A0 l0.length c0] w fun e w' => ∃ v0_ : Value, e = .returned (.tuple #[v0_, .int .i64 r2]) ∧ Kd.V (Kd.int .u8) 5 w' w.heap.size (fun k_ => w.heap.size ≤ k_) v0_ r1 ∧ Below w.heap.size w w' := by
 unfold pax_Encode.f at h
 split at h
 ·rename_i hs
  have h2 := Option.some.inj h
  simp only [Prod.mk.injEq] at h2
  obtain ⟨rfl, rfl⟩ := h2
  have := encode_any cany_any l0 A0 c0 w (recC_of hr0) hs hE_
  refine this.mono fun e w' ⟨v, a, b, c⟩ => ⟨v, a, v_of_bytes b ?_, c⟩
  unfold encOf
  split
  ·simp
  ·split
   ·have := encL_le (l := l0) (n := 2000100) (fun r hr => recT_le r.1 r.2 (hs r hr).1 (hs r hr).2)
    simp only
    have h64 : l0.length ≤ 64 := by omega
    have := Nat.mul_le_mul_right 2000100 h64
    omega
   ·simp
 ·cases h
end Go.Proofs.YtpbpfngichfgeaaGreatDoor.PEmit
