/-
  Several texts in one: YtpbpfngichfgeaaDoorChkVal, YtpbpfngichfgeaaDoorFillSpec, YtpbpfngichfgeaaDoorEntVal, YtpbpfngichfgeaaDoorEmitOneLaw.
-/
import Derived.Test.YtpbpfngichfgeaaDoorPEmitx3
import Derived.Lib.IndexLaws
import Derived.Test.YtpbpfngichfgeaaDoorPEmitx4
import Derived.Test.YtpbpfngichfgeaaDoorOnePlain
import Derived.Test.YtpbpfngichfgeaaDoorPEmitx5
namespace Go.Proofs.YtpbpfngichfgeaaDoor.PEmit
set_option linter.unusedVariables false
set_option linter.unusedSimpArgs false
open Go.RowKit Go.Proofs.YtpbpfngichfgeaaDoor Go.Proofs.YtpbpfngichfgeaaDoorW.PrintWords Go.Proofs.YtpbpfngichfgeaaDoorW.PrintLast Go.Proofs.YtpbpfngichfgeaaDoorW.PrintMore

def any0 (s : ByteArray) : Bool := s.data.toList.any (· == 0)
theorem has0_any (s : ByteArray) : has0 s = any0 s := by
  unfold has0 any0
  rw [Bool.eq_iff_iff, decide_eq_true_eq, List.any_eq_true]
  have hge := Lib.indexByte_ge s.data.toList 0
  constructor
  · intro h
    obtain ⟨o, ho⟩ : ∃ o : Nat, Lib.indexByte s.data.toList 0 = o := ⟨(Lib.indexByte s.data.toList 0).toNat, by omega⟩
    exact ⟨0, List.mem_of_getElem? (Lib.indexByte_some ho).1, rfl⟩
  · rintro ⟨x, hx, h0⟩
    rcases (by omega : 0 ≤ Lib.indexByte s.data.toList 0 ∨ Lib.indexByte s.data.toList 0 = -1) with h1 | h1
    · exact h1
    · obtain ⟨k, hk, e⟩ := List.getElem_of_mem hx
      refine absurd ?_ (Lib.indexByte_none h1 k)
      rw [List.getElem?_eq_getElem hk, e]
      simpa using h0
theorem any0_append (a b : ByteArray) : any0 (a ++ b) = (any0 a || any0 b) := by simp [any0]
def goodE (p : ByteArray) (lb nul : Bool) (kd md uid gid sz : Int) : Prop :=
  1 ≤ kd ∧ kd ≤ 4 ∧ 0 ≤ md ∧ md ≤ 4095 ∧ 0 ≤ uid ∧ 0 ≤ gid ∧ 0 ≤ sz ∧ (kd = 1 ∨ sz = 0) ∧ ((kd = 2 ∨ kd = 3) ↔ lb = true) ∧ p.toList ≠ [] ∧ nul = false
section
variable (p l u g : ByteArray) (kd md uid gid mt sz : Int)
theorem j2_val (hp : p.size ≤ 5000) (hl : l.size ≤ 5000) (hu : u.size ≤ 5000) (hg : g.size ≤ 5000) (b : Bool) (k : Nat) :
    emit_Check.j2 (k + 1) b p l kd md uid gid mt sz u g = some (if b = true then 90 else if p.toList = [] then 90 else if (any0 p || any0 l || any0 u || any0 g) = true then 90 else 0) := by
  have hcon : strings_Contains.f (((p ++ l) ++ u) ++ g) (⟨#[0]⟩ : ByteArray) = some (any0 p || any0 l || any0 u || any0 g) := by
    unfold strings_Contains.f
    rw [if_pos rfl, has0_any, any0_append, any0_append, any0_append]
  have s1 : (p ++ l).size = p.size + l.size := ByteArray.size_append
  have s2 : ((p ++ l) ++ u).size = p.size + l.size + u.size := by rw [ByteArray.size_append, s1]
  rw [emit_Check.j2, hcon, Option.bind_some, if_pos (show p.size + l.size ≤ _ by omega), if_pos (show (p ++ l).size + u.size ≤ _ by omega), if_pos (show ((p ++ l) ++ u).size + g.size ≤ _ by omega)]
  generalize (any0 p || any0 l || any0 u || any0 g) = nul
  by_cases h1 : b = true
  · rw [if_pos h1, if_pos h1]
  · rw [if_neg h1, if_neg h1]
    by_cases h2 : p.toList = []
    · rw [if_pos h2, if_pos h2]
    · rw [if_neg h2, if_neg h2]
      cases nul <;> rfl
theorem check_val (hp : p.size ≤ 5000) (hl : l.size ≤ 5000) (hu : u.size ≤ 5000) (hg : g.size ≤ 5000) (k : Nat) : ∃ c, emit_Check.f (k + 3) p l kd md uid gid mt sz u g = some c ∧
    (goodE p (l.toList != []) (any0 p || any0 l || any0 u || any0 g) kd md uid gid sz → c = 0) ∧ (¬ goodE p (l.toList != []) (any0 p || any0 l || any0 u || any0 g) kd md uid gid sz → c = 90) := by
  have h2 := j2_val p l u g kd md uid gid mt sz hp hl hu hg
  have hj0 : emit_Check.j0 (k + 3) true p l kd md uid gid mt sz u g = some 90 := by rw [emit_Check.j0, if_pos rfl]
  have hj1 : ∀ b, emit_Check.j1 (k + 2) b p l kd md uid gid mt sz u g = emit_Check.j2 (k + 1) (if b = true then true else if kd = 2 then (true != (l.toList != ([] : List UInt8))) else ((kd == 3) != (l.toList != ([] : List UInt8)))) p l kd md uid gid mt sz u g := by
    intro b
    rw [emit_Check.j1]
    cases b
    · simp only [Bool.false_eq_true, if_false]; split <;> rfl
    · rfl
  generalize (any0 p || any0 l || any0 u || any0 g) = nul at *
  generalize (l.toList != ([] : List UInt8)) = lb at *
  by_cases hk : 1 ≤ kd ∧ kd ≤ 4
  · obtain ⟨t, ht, ht0⟩ : ∃ t, kind_Type.f kd = some t ∧ t ≠ 0 := by
      rcases (by omega : kd = 1 ∨ kd = 2 ∨ kd = 3 ∨ kd = 4) with rfl | rfl | rfl | rfl <;> exact ⟨_, rfl, by decide⟩
    unfold emit_Check.f
    rw [ht, Option.bind_some, if_neg ht0, hj0]
    by_cases c1 : md < 0
    · exact ⟨90, by rw [if_pos c1], fun h => by unfold goodE at h; omega, fun _ => rfl⟩
    rw [if_neg c1]
    by_cases c2 : md > 4095
    · exact ⟨90, by rw [if_pos c2], fun h => by unfold goodE at h; omega, fun _ => rfl⟩
    rw [if_neg c2]
    by_cases c3 : uid < 0
    · exact ⟨90, by rw [if_pos c3], fun h => by unfold goodE at h; omega, fun _ => rfl⟩
    rw [if_neg c3]
    by_cases c4 : gid < 0
    · exact ⟨90, by rw [if_pos c4], fun h => by unfold goodE at h; omega, fun _ => rfl⟩
    rw [if_neg c4]
    by_cases c5 : sz < 0
    · exact ⟨90, by rw [decide_eq_true c5, hj0], fun h => by unfold goodE at h; omega, fun _ => rfl⟩
    rw [decide_eq_false c5, emit_Check.j0, if_neg (by decide), hj1, hj1, h2, h2]
    unfold goodE
    by_cases hpl : p.toList = []
    · refine ⟨90, ?_, fun h => absurd hpl h.2.2.2.2.2.2.2.2.2.1, fun _ => rfl⟩
      split <;> (repeat' split) <;> rfl
    · rw [if_neg hpl]
      cases nul with
      | true =>
        refine ⟨90, ?_, fun h => by simp at h, fun _ => rfl⟩
        split <;> (repeat' split) <;> first | rfl | contradiction
      | false =>
        simp only [Bool.false_eq_true, if_false]
        rcases (by omega : kd = 1 ∨ kd = 2 ∨ kd = 3 ∨ kd = 4) with rfl | rfl | rfl | rfl <;> cases lb <;> by_cases c6 : sz = 0
        all_goals first
          | exact ⟨0, by simp [c6], fun _ => rfl, fun h => absurd ⟨by omega, by omega, by omega, by omega, by omega, by omega, by omega, by omega, by decide, hpl, (by first | exact trivial | rfl)⟩ h⟩
          | exact ⟨90, by simp [c6], fun h => absurd h (by rintro ⟨_, _, _, _, _, _, _, q1, q2, _⟩; first | omega | exact absurd q2 (by decide)), fun _ => rfl⟩
  · have ht : kind_Type.f kd = some 0 := by
      unfold kind_Type.f
      rw [if_neg (by omega), if_neg (by omega), if_neg (by omega), if_neg (by omega)]
    exact ⟨90, by unfold emit_Check.f; rw [ht, Option.bind_some, if_pos rfl, hj0], fun h => by unfold goodE at h; omega, fun _ => rfl⟩
end
end Go.Proofs.YtpbpfngichfgeaaDoor.PEmit

namespace Go.Proofs.YtpbpfngichfgeaaDoor
set_option linter.unusedVariables false
open Go Go.RowKit Go.Proofs.YtpbpfngichfgeaaDoorW.PrintWords
/-- The fill behind so many bytes. -/
theorem fill_some (n : Nat) (h : n ≤ 1000000000000) : PEmit.emit_Fill.f (n : Int) = some (List.replicate ((512 - n % 512) % 512) 0) := by
  unfold PEmit.emit_Fill.f PEmit.entry_Pad.f
  have h1 : Int.tmod (n : Int) 512 = ((n % 512 : Nat) : Int) := by rw [Int.tmod_eq_emod_of_nonneg (by omega)]; omega
  have h2 : wrap64 (512 - ((n % 512 : Nat) : Int)) = ((512 - n % 512 : Nat) : Int) := by
    have : n % 512 < 512 := Nat.mod_lt _ (by omega)
    unfold wrap64; omega
  have h3 : Int.tmod ((512 - n % 512 : Nat) : Int) 512 = (((512 - n % 512) % 512 : Nat) : Int) := by rw [Int.tmod_eq_emod_of_nonneg (by omega)]; omega
  rw [h1, h2, h3, Option.bind_some, if_pos (by omega), if_pos (by omega), Int.toNat_natCast]
end Go.Proofs.YtpbpfngichfgeaaDoor

namespace Go.Proofs.YtpbpfngichfgeaaDoor.PEmit
set_option linter.unusedVariables false
set_option linter.unusedSimpArgs false
open Go Go.RowKit Go.Proofs.YtpbpfngichfgeaaDoor Go.Proofs.YtpbpfngichfgeaaDoorW.PrintWords

def paxH (n : Int) : List Int := hdrL ⟨#[112, 97, 120]⟩ ⟨#[]⟩ ⟨#[]⟩ ⟨#[]⟩ ⟨#[]⟩ 120 420 0 0 n 0
abbrev PaxFits (n : Int) : Prop := HdrFits ⟨#[112, 97, 120]⟩ ⟨#[]⟩ ⟨#[]⟩ ⟨#[]⟩ ⟨#[]⟩ 120 420 0 0 n 0
theorem pax_fits (n : Nat) (h : n < 8589934592) : PaxFits (n : Int) := by
  refine ⟨fun k hk => ?_, fun k hk => ?_, by omega, by omega⟩
  · rcases (by omega : k = 0 ∨ k = 1 ∨ k = 2 ∨ k = 3 ∨ k = 4) with rfl | rfl | rfl | rfl | rfl
    · exact (fits_t _ 100).trans (congrArg some (by decide))
    · exact (fits_t _ 100).trans (congrArg some (by decide))
    · exact (fits_t _ 31).trans (congrArg some (by decide))
    · exact (fits_t _ 31).trans (congrArg some (by decide))
    · exact (fits_t _ 155).trans (congrArg some (by decide))
  · rcases (by omega : k = 0 ∨ k = 1 ∨ k = 2 ∨ k = 3 ∨ k = 4) with rfl | rfl | rfl | rfl | rfl
    · exact ⟨show (0 : Int) ≤ 420 by decide, show (420 : Int) < 8 ^ 7 by decide⟩
    · exact ⟨show (0 : Int) ≤ 0 by decide, show (0 : Int) < 8 ^ 7 by decide⟩
    · exact ⟨show (0 : Int) ≤ 0 by decide, show (0 : Int) < 8 ^ 7 by decide⟩
    · refine ⟨?_, ?_⟩
      · show (0 : Int) ≤ n; omega
      · show (n : Int) < 8 ^ 11
        have : (8 : Int) ^ 11 = 8589934592 := by decide
        omega
    · exact ⟨show (0 : Int) ≤ 0 by decide, show (0 : Int) < 8 ^ 11 by decide⟩
/-- What emit.Entry writes. -/
def EmitOk (p l u g : ByteArray) (kd md uid gid mt sz : Int) (bs : List Int) : Prop :=
  ∃ (pr nm : ByteArray) (b : Bool) (typ : Int), goodE p (l.toList != []) (any0 p || any0 l || any0 u || any0 g) kd md uid gid sz ∧ POct.kind_Type.f kd = some typ ∧ SplitIs p (pr, nm, b) ∧
    HdrFits (if b then nm else ⟨#[108, 111, 110, 103]⟩) (tv l 100) (if b then pr else ⟨#[]⟩) (tv u 31) (tv g 31) typ md (nv uid 8) (nv gid 8) (nv sz 12) (nv mt 12) ∧
    ((recsK (lEnt p l u g b uid gid sz mt) 8 = [] ∧ bs = hdrL (if b then nm else ⟨#[108, 111, 110, 103]⟩) (tv l 100) (if b then pr else ⟨#[]⟩) (tv u 31) (tv g 31) typ md (nv uid 8) (nv gid 8) (nv sz 12) (nv mt 12)) ∨
     (recsK (lEnt p l u g b uid gid sz mt) 8 ≠ [] ∧ chkL (recsK (lEnt p l u g b uid gid sz mt) 8) = 0 ∧ PaxFits ((encL (recsK (lEnt p l u g b uid gid sz mt) 8)).length : Int) ∧
      bs = paxH ((encL (recsK (lEnt p l u g b uid gid sz mt) 8)).length : Int) ++ intsOf (encL (recsK (lEnt p l u g b uid gid sz mt) 8)) ++ List.replicate ((512 - (encL (recsK (lEnt p l u g b uid gid sz mt) 8)).length % 512) % 512) 0 ++ hdrL (if b then nm else ⟨#[108, 111, 110, 103]⟩) (tv l 100) (if b then pr else ⟨#[]⟩) (tv u 31) (tv g 31) typ md (nv uid 8) (nv gid 8) (nv sz 12) (nv mt 12)))
theorem head_some {name link pre user group : ByteArray} {typ mode uid gid size mtime : Int} (h : HdrFits name link pre user group typ mode uid gid size mtime) : head_Encode.f 0 name link pre user group typ mode uid gid size mtime = some (hdrL name link pre user group typ mode uid gid size mtime, 0) := by
  unfold head_Encode.f
  rw [if_pos ((hdrFitsB_iff _ _ _ _ _ _ _ _ _ _ _).2 h)]
theorem enc_parts {L : List KV} (h : (encOf L).2 = 0) : L.length ≤ 64 ∧ chkL L = 0 ∧ (encOf L).1 = encL L := by
  unfold encOf at h ⊢
  split at h
  · simp at h
  · split at h
    · rename_i a b
      rw [if_neg a, if_pos b]
      exact ⟨by omega, b, rfl⟩
    · rename_i b
      exact absurd h b
section
variable (p l u g : ByteArray) (kd md uid gid mt sz : Int)
set_option maxHeartbeats 4000000 in
set_option maxRecDepth 100000 in
theorem entry_val (hp : p.size ≤ 5000) (hl : l.size ≤ 5000) (hu : u.size ≤ 5000) (hg : g.size ≤ 5000) (i1 : InI uid) (i2 : InI gid) (i3 : InI sz) (i4 : InI mt) (K : Nat) :
    ∃ bs c, emit_Entry.f (K + 3) p l kd md uid gid mt sz u g = some (bs, c) ∧ (c = 0 → EmitOk p l u g kd md uid gid mt sz bs) := by
  obtain ⟨c, hchk, hc, hc'⟩ := check_val p l u g kd md uid gid mt sz hp hl hu hg K
  unfold emit_Entry.f
  rw [hchk, Option.bind_some]
  by_cases hgood : goodE p (l.toList != []) (any0 p || any0 l || any0 u || any0 g) kd md uid gid sz
  case neg =>
    obtain rfl := hc' hgood
    exact ⟨[], 90, by rw [if_neg (by decide)], fun h => by omega⟩
  obtain rfl := hc hgood
  rw [if_pos rfl]
  obtain ⟨⟨pr, nm, b⟩, hs, hsp⟩ := split_spec p hp
  have hk : ∃ typ, POct.kind_Type.f kd = some typ ∧ 0 ≤ typ ∧ typ < 256 := by
    have h1 := hgood.1
    have h2 := hgood.2.1
    unfold POct.kind_Type.f
    rcases (by omega : kd = 1 ∨ kd = 2 ∨ kd = 3 ∨ kd = 4) with rfl | rfl | rfl | rfl
    · exact ⟨48, rfl, by omega, by omega⟩
    · exact ⟨49, rfl, by omega, by omega⟩
    · exact ⟨50, rfl, by omega, by omega⟩
    · exact ⟨53, rfl, by omega, by omega⟩
  obtain ⟨typ, ht, t0, t1⟩ := hk
  have hsplit : emit_split.f p l kd md uid gid mt sz u g = some (0, (if b then nm else ⟨#[108, 111, 110, 103]⟩), tv l 100, (if b then pr else ⟨#[]⟩), tv u 31, tv g 31, typ, md, nv uid 8, nv gid 8, nv sz 12, nv mt 12, recsK (lEnt p l u g b uid gid sz mt) 8) := by
    unfold emit_split.f
    rw [if_pos ⟨i1, i2, i3, i4⟩, ht, Option.bind_some, hs, Option.bind_some]
    rfl
  rw [hsplit, Option.bind_some]
  have hm := main_fits hsp l u g (typ := typ) (md := md) uid gid sz mt t0 t1 hgood.2.2.1 hgood.2.2.2.1
  have hH := head_some hm
  have hlen := hdrL_length hm
  have hsm := recs_small p l u g b uid gid sz mt hp hl hu hg (fun j hj => by
    rcases (by omega : j = 0 ∨ j = 1 ∨ j = 2 ∨ j = 3) with rfl | rfl | rfl | rfl
    · exact i1
    · exact i2
    · exact i3
    · exact i4)
  have hR8 := recsK_len (lEnt p l u g b uid gid sz mt) 8
  have hok : ∀ bs, ((recsK (lEnt p l u g b uid gid sz mt) 8 = [] ∧ bs = _) ∨ _) → EmitOk p l u g kd md uid gid mt sz bs := fun bs h => ⟨pr, nm, b, typ, hgood, ht, hsp, hm, h⟩
  generalize recsK (lEnt p l u g b uid gid sz mt) 8 = R at *
  generalize hdrL (if b then nm else ⟨#[108, 111, 110, 103]⟩) (tv l 100) (if b then pr else ⟨#[]⟩) (tv u 31) (tv g 31) typ md (nv uid 8) (nv gid 8) (nv sz 12) (nv mt 12) = H at *
  by_cases hR : R = []
  · refine ⟨H, 0, ?_, fun _ => hok H (.inl ⟨hR, rfl⟩)⟩
    simp only
    rw [if_neg (by rw [hR]; decide), hH, Option.bind_some, if_pos rfl, if_pos (by simp [hlen])]
    rfl
  · have hpos : (R.length : Int) > 0 := by
      have : R.length ≠ 0 := fun h => hR (List.length_eq_zero_iff.1 h)
      omega
    simp only
    rw [if_pos hpos]
    have hpx : pax_Encode.f R = some (intsOf (encOf R).1, (encOf R).2) := by
      unfold pax_Encode.f
      rw [if_pos hsm]
    rw [hpx, Option.bind_some]
    simp only
    by_cases he : (encOf R).2 = 0
    case neg =>
      refine ⟨[], (encOf R).2, by rw [if_neg he], fun h => absurd h he⟩
    rw [if_pos he]
    obtain ⟨_, hchkL, e1⟩ := enc_parts he
    rw [e1]
    have hle : (encL R).length ≤ 8 * 2000100 := by
      have h1 := encL_le (l := R) (n := 2000100) (fun r hr => recT_le r.1 r.2 (hsm r hr).1 (hsm r hr).2)
      exact Nat.le_trans h1 (Nat.mul_le_mul_right _ hR8)
    have hil : (intsOf (encL R)).length = (encL R).length := by simp [intsOf]
    have hpf := pax_fits (encL R).length (by omega)
    have hP := head_some hpf
    have hPl := hdrL_length hpf
    rw [hil, hP, Option.bind_some]
    simp only [if_true]
    rw [if_pos (by rw [hPl]; simp), Option.bind_some, if_pos (by simp only [List.length_append, List.length_nil, hPl]; omega), Option.bind_some, fill_some _ (by omega), Option.bind_some]
    have hpad : (512 - (encL R).length % 512) % 512 < 512 := Nat.mod_lt _ (by omega)
    rw [if_pos (by simp only [List.length_append, List.length_replicate, hil, hPl, List.length_nil]; omega), Option.bind_some, hH, Option.bind_some]
    simp only [if_true]
    rw [if_pos (by simp only [List.length_append, List.length_replicate, hil, hPl, hlen, List.length_nil]; omega)]
    refine ⟨_, 0, rfl, fun _ => hok _ (.inr ⟨hR, hchkL, hpf, ?_⟩)⟩
    simp only [List.nil_append]
    rfl
end
theorem ints_one {a b : List UInt8} (h : intsOf a = intsOf b) : a = b := by
  refine List.map_inj_right (f := fun b : UInt8 => (b.toNat : Int)) ?_ |>.1 h
  intro x y e
  exact UInt8.toNat_inj.1 (Int.ofNat_inj.1 e)
theorem kind_one {kd kd' t : Int} (h1 : 1 ≤ kd ∧ kd ≤ 4) (h2 : 1 ≤ kd' ∧ kd' ≤ 4) (h : POct.kind_Type.f kd = some t) (h' : POct.kind_Type.f kd' = some t) : kd = kd' := by
  unfold POct.kind_Type.f at h h'
  rcases (by omega : kd = 1 ∨ kd = 2 ∨ kd = 3 ∨ kd = 4) with rfl | rfl | rfl | rfl <;> rcases (by omega : kd' = 1 ∨ kd' = 2 ∨ kd' = 3 ∨ kd' = 4) with rfl | rfl | rfl | rfl <;> first | rfl | (simp at h h'; omega)
/-- Equal bytes, equal entry. -/
theorem emit_one {p l u g p' l' u' g' : ByteArray} {kd md uid gid mt sz kd' md' uid' gid' mt' sz' : Int} {bs : List Int} (h : EmitOk p l u g kd md uid gid mt sz bs) (h' : EmitOk p' l' u' g' kd' md' uid' gid' mt' sz' bs) :
    p = p' ∧ l = l' ∧ kd = kd' ∧ md = md' ∧ uid = uid' ∧ gid = gid' ∧ mt = mt' ∧ sz = sz' ∧ u = u' ∧ g = g' := by
  obtain ⟨pr, nm, b, typ, hgood, ht, hsp, hm, hw⟩ := h
  obtain ⟨pr', nm', b', typ', hgood', ht', hsp', hm', hw'⟩ := h'
  have key : recsK (lEnt p l u g b uid gid sz mt) 8 = recsK (lEnt p' l' u' g' b' uid' gid' sz' mt') 8 ∧
      hdrL (if b then nm else ⟨#[108, 111, 110, 103]⟩) (tv l 100) (if b then pr else ⟨#[]⟩) (tv u 31) (tv g 31) typ md (nv uid 8) (nv gid 8) (nv sz 12) (nv mt 12) = hdrL (if b' then nm' else ⟨#[108, 111, 110, 103]⟩) (tv l' 100) (if b' then pr' else ⟨#[]⟩) (tv u' 31) (tv g' 31) typ' md' (nv uid' 8) (nv gid' 8) (nv sz' 12) (nv mt' 12) := by
    have l1 := hdrL_length hm
    have l2 := hdrL_length hm'
    generalize recsK (lEnt p l u g b uid gid sz mt) 8 = R at *
    generalize recsK (lEnt p' l' u' g' b' uid' gid' sz' mt') 8 = R' at *
    generalize hdrL (if b then nm else ⟨#[108, 111, 110, 103]⟩) (tv l 100) (if b then pr else ⟨#[]⟩) (tv u 31) (tv g 31) typ md (nv uid 8) (nv gid 8) (nv sz 12) (nv mt 12) = H at *
    generalize hdrL (if b' then nm' else ⟨#[108, 111, 110, 103]⟩) (tv l' 100) (if b' then pr' else ⟨#[]⟩) (tv u' 31) (tv g' 31) typ' md' (nv uid' 8) (nv gid' 8) (nv sz' 12) (nv mt' 12) = H' at *
    rcases hw with ⟨hR, e⟩ | ⟨hR, hc, hpf, e⟩ <;> rcases hw' with ⟨hR', e'⟩ | ⟨hR', hc', hpf', e'⟩
    · exact ⟨hR.trans hR'.symm, e.symm.trans e'⟩
    · exfalso
      have := congrArg List.length (e.symm.trans e')
      have hPl := hdrL_length hpf'
      simp only [List.length_append, l1, l2, paxH, hPl] at this
      omega
    · exfalso
      have := congrArg List.length (e.symm.trans e')
      have hPl := hdrL_length hpf
      simp only [List.length_append, l1, l2, paxH, hPl] at this
      omega
    · have e2 := e.symm.trans e'
      have p1 := hdrL_length hpf
      have p2 := hdrL_length hpf'
      simp only [List.append_assoc] at e2
      obtain ⟨a1, a2⟩ := List.append_inj e2 (p1.trans p2.symm)
      have hn : ((encL R).length : Int) = ((encL R').length : Int) := (hdrL_one hpf hpf' a1).2.2 3 (by omega)
      have hnn : (encL R).length = (encL R').length := by omega
      obtain ⟨a3, a4⟩ := List.append_inj a2 (by simp only [intsOf, List.length_map]; exact hnn)
      rw [hnn] at a4
      exact ⟨encL_one R R' hc hc' (ints_one a3), (List.append_inj a4 rfl).2⟩
  obtain ⟨k1, k2⟩ := key
  obtain ⟨t, ty, n⟩ := hdrL_one hm hm' k2
  subst ty
  obtain ⟨q1, q2, q3, q4, q5, q6, q7, q8⟩ := parts_one hsp hsp' k1 (t 0 (by omega)) (t 4 (by omega)) (t 1 (by omega)) (t 2 (by omega)) (t 3 (by omega)) (n 1 (by omega)) (n 2 (by omega)) (n 3 (by omega)) (n 4 (by omega))
  exact ⟨q1, q2, kind_one ⟨hgood.1, hgood.2.1⟩ ⟨hgood'.1, hgood'.2.1⟩ ht ht', n 0 (by omega), q5, q6, q8, q7, q3, q4⟩
end Go.Proofs.YtpbpfngichfgeaaDoor.PEmit

namespace Go.Proofs.YtpbpfngichfgeaaDoor.PEmit
set_option linter.unusedVariables false
set_option linter.unusedSimpArgs false
open Go Go.RowKit Go.Proofs.YtpbpfngichfgeaaDoor Go.Proofs.YtpbpfngichfgeaaDoorW.PrintWords Go.Proofs.YtpbpfngichfgeaaDoorW.PrintLast Go.Proofs.YtpbpfngichfgeaaDoorW.PrintMore

theorem hdrL_range {name link pre user group : ByteArray} {typ mode uid gid size mtime : Int} (f : HdrFits name link pre user group typ mode uid gid size mtime) : ∀ x ∈ hdrL name link pre user group typ mode uid gid size mtime, 0 ≤ x ∧ x < 256 := by
  have hH : ∀ x ∈ hdrH name link pre user group typ mode uid gid size mtime, 0 ≤ x ∧ x < 256 := by
    unfold hdrH
    refine range_splice (fun x hx => ?_) (by decide)
    rcases List.mem_or_eq_of_mem_set hx with h | h
    · exact numsH_range (textsH_range name link pre user group 5) mode uid gid size mtime 5 x h
    · rw [h]; exact ⟨f.t0, f.t1⟩
  intro x hx
  unfold hdrL sealL at hx
  rcases List.mem_append.1 hx with h | h
  · exact hH x (List.mem_of_mem_take h)
  · rcases List.mem_append.1 h with h | h
    · rcases List.mem_append.1 h with h | h
      · exact octL_range _ _ x h
      · rw [List.mem_singleton.1 h]; decide
    · exact hH x (List.mem_of_mem_drop h)
theorem ok_range {p l u g : ByteArray} {kd md uid gid mt sz : Int} {bs : List Int} (h : EmitOk p l u g kd md uid gid mt sz bs) : ∀ x ∈ bs, 0 ≤ x ∧ x < 256 := by
  obtain ⟨pr, nm, b, typ, hgood, ht, hsp, hm, ⟨hR, e⟩ | ⟨hR, hc, hpf, e⟩⟩ := h
  · rw [e]; exact hdrL_range hm
  · rw [e]
    intro x hx
    rcases List.mem_append.1 hx with h | h
    · rcases List.mem_append.1 h with h | h
      · rcases List.mem_append.1 h with h | h
        · exact hdrL_range hpf x h
        · obtain ⟨b, _, rfl⟩ := List.mem_map.1 h
          have := b.toNat_lt
          omega
      · rw [List.eq_of_mem_replicate h]; decide
    · exact hdrL_range hm x h
theorem nums_one : ∀ (a b : List Int), (∀ x ∈ a, 0 ≤ x ∧ x < 256) → (∀ x ∈ b, 0 ≤ x ∧ x < 256) → (a.map fun n => UInt8.ofNat n.toNat) = (b.map fun n => UInt8.ofNat n.toNat) → a = b
  | [], [], _, _, _ => rfl
  | [], y :: b, _, _, h => by simp at h
  | x :: a, [], _, _, h => by simp at h
  | x :: a, y :: b, ha, hb, h => by
    simp only [List.map_cons, List.cons.injEq] at h
    have h1 := ha x (by simp)
    have h2 := hb y (by simp)
    have e := congrArg UInt8.toNat h.1
    rw [UInt8.toNat_ofNat', UInt8.toNat_ofNat'] at e
    rw [nums_one a b (fun z hz => ha z (by simp [hz])) (fun z hz => hb z (by simp [hz])) h.2]
    congr 1
    omega
theorem str_one {a b : List Int} (ha : ∀ x ∈ a, 0 ≤ x ∧ x < 256) (hb : ∀ x ∈ b, 0 ≤ x ∧ x < 256) (h : (strOfNums a).toList = (strOfNums b).toList) : a = b := by
  rw [ByteArray.toList_eq, ByteArray.toList_eq] at h
  exact nums_one a b ha hb h
theorem tl_one {a b : ByteArray} : a.toList = b.toList ↔ a = b := by
  constructor
  · intro h; exact str_of (by simp [h])
  · rintro rfl; rfl
theorem fits_spec (p l u g : ByteArray) (kd md uid gid mt sz : Int) : pannierlaw18_fits.f p l kd md uid gid mt sz u g = some (decide (p.size ≤ 5000 ∧ l.size ≤ 5000 ∧ u.size ≤ 5000 ∧ g.size ≤ 5000)) := by
  unfold pannierlaw18_fits.f
  by_cases h1 : p.size ≤ 5000
  · rw [if_pos (by omega)]
    by_cases h2 : l.size ≤ 5000
    · rw [if_pos (by omega)]
      by_cases h3 : u.size ≤ 5000
      · rw [if_pos (by omega)]
        congr 1
        rw [decide_eq_decide]
        omega
      · rw [if_neg (by omega)]; simp [h3]
    · rw [if_neg (by omega)]; simp [h2]
  · rw [if_neg (by omega)]; simp [h1]
theorem writes_true : pannierlaw18_writes.f 220 = some true := by decide +kernel
theorem writes_ge : ∀ n, pannierlaw18_writes.f (220 + n) = some true
  | 0 => writes_true
  | n + 1 => pannierlaw18_writes.mono (220 + n) _ (writes_ge n)
/-- The law's meaning: it answers true. -/
theorem one_true (p l u g p' l' u' g' : ByteArray) (kd md uid gid mt sz kd' md' uid' gid' mt' sz' : Int) (i1 : InI uid) (i2 : InI gid) (i3 : InI sz) (i4 : InI mt) (j1 : InI uid') (j2 : InI gid') (j3 : InI sz') (j4 : InI mt') :
    ∃ k, pannierlaw18_EmitOne.f k p l kd md uid gid mt sz u g p' l' kd' md' uid' gid' mt' sz' u' g' = some true := by
  refine ⟨224, ?_⟩
  unfold pannierlaw18_EmitOne.f
  rw [show (224 : Nat) = 220 + 4 from rfl, writes_ge, Option.bind_some, if_pos rfl, fits_spec, Option.bind_some]
  by_cases hf : p.size ≤ 5000 ∧ l.size ≤ 5000 ∧ u.size ≤ 5000 ∧ g.size ≤ 5000
  case neg => rw [if_neg (by simpa using hf)]; rfl
  rw [if_pos (by simpa using hf), fits_spec, Option.bind_some]
  by_cases hf' : p'.size ≤ 5000 ∧ l'.size ≤ 5000 ∧ u'.size ≤ 5000 ∧ g'.size ≤ 5000
  case neg => rw [decide_eq_false hf']; rfl
  rw [decide_eq_true hf', show 220 + 4 = 223 + 1 from rfl, pannierlaw18_EmitOne.j0, if_neg (by decide)]
  obtain ⟨bs, c, e1, h1⟩ := entry_val p l u g kd md uid gid mt sz hf.1 hf.2.1 hf.2.2.1 hf.2.2.2 i1 i2 i3 i4 220
  obtain ⟨bs', c', e2, h2⟩ := entry_val p' l' u' g' kd' md' uid' gid' mt' sz' hf'.1 hf'.2.1 hf'.2.2.1 hf'.2.2.2 j1 j2 j3 j4 220
  rw [show 223 = 220 + 3 from rfl, e1, e2, Option.bind_some, Option.bind_some]
  simp only
  by_cases hc : c = 0
  case neg => rw [if_neg hc]
  by_cases hc' : c' = 0
  case neg => rw [if_pos hc, if_neg hc']
  rw [if_pos hc, if_pos hc']
  have g1 := h1 hc
  have g2 := h2 hc'
  congr 1
  rw [beq_iff_eq, Bool.eq_iff_iff]
  simp only [beq_iff_eq, Bool.and_eq_true, tl_one]
  constructor
  · intro h
    have hb := str_one (ok_range g1) (ok_range g2) (tl_one.2 h)
    subst hb
    exact emit_one g1 g2
  · rintro ⟨rfl, rfl, rfl, rfl, rfl, rfl, rfl, rfl, rfl, rfl⟩
    rw [e1] at e2
    have := Option.some.inj e2
    rw [(Prod.mk.inj this).1]
end Go.Proofs.YtpbpfngichfgeaaDoor.PEmit
