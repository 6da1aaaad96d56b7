/-
  Several texts in one: YtpbpfngichfgeaaGreatDoorFedB, YtpbpfngichfgeaaGreatDoorFedF, YtpbpfngichfgeaaGreatDoorBytesP.
-/
import Derived.Test.YtpbpfngichfgeaaGreatDoorArcs
import Derived.Test.YtpbpfngichfgeaaGreatDoorPushEL
namespace Go.Proofs.YtpbpfngichfgeaaGreatDoor
set_option linter.unusedVariables false
set_option linter.unusedSimpArgs false
open Go Go.RowKit Go.Proofs.YtpbpfngichfgeaaGreatDoorW.PrintWords Go.Proofs.YtpbpfngichfgeaaGreatDoorW.PrintLast Go.Proofs.YtpbpfngichfgeaaGreatDoorW.PrintMore

/-- A round that takes all bytes is the fold over them. -/
theorem fold_round (s s' : PSt) (xs : List Int) (a : Option Arc) (hs : OkS s) (h4 : s.st ≠ 4) (hp : 0 < xs.length) (hb : ∀ x ∈ xs, 0 ≤ x ∧ x < 256) (ha : s.at_ + xs.length ≤ 1099511627776) (hr : s.round xs = (s', xs.length)) :
    foldB (s, a) xs = ({ s' with out := [] }, Arc.evs a s'.out) ∧ OkS { s' with out := [] } := by
  have q := take_fold xs.length s xs a hs h4 hp hb ha (by rw [hr])
  rw [List.take_length] at q
  have n := (hs.next h4 hp hb ha).1
  rw [hr] at n
  refine ⟨?_, n⟩
  rw [← q]
  unfold stepN
  rw [hr]
theorem fold_head (s : PSt) (b : List Int) (a : Option Arc) (hs : OkS s) (h0 : s.st = 0) (hbl : s.block = []) (hl : b.length = 512) (hb : ∀ x ∈ b, 0 ≤ x ∧ x < 256) (ha : s.at_ + 512 ≤ 1099511627776) (s' : PSt)
    (hh : ({ s with block := b, at_ := s.at_ + 512, place := s.at_ } : PSt).head = s') :
    foldB (s, a) b = ({ s' with block := [], out := [] }, Arc.evs a s'.out) ∧ OkS { s' with block := [], out := [] } := by
  have hr : s.round b = ({ s' with block := [] }, b.length) := by
    unfold PSt.round
    rw [if_pos h0]
    have hn : min b.length (512 - s.block.length) = 512 := by rw [hbl, hl]; rfl
    have ht : s.block ++ b.take 512 = b := by rw [hbl, List.take_of_length_le (by omega)]; rfl
    simp only [hn]
    rw [ht, if_pos hl]
    have e1 : s.at_ + ((512 : Nat) : Int) - 512 = s.at_ := by omega
    rw [e1]
    have e2 : s.at_ + ((512 : Nat) : Int) = s.at_ + 512 := rfl
    rw [e2, hl]
    exact Prod.ext (congrArg (fun q : PSt => { q with block := [] }) hh) rfl
  exact fold_round s { s' with block := [] } b a hs (by omega) (by omega) hb (by rw [hl]; exact ha) hr
theorem fold_pad (s : PSt) (xs : List Int) (a : Option Arc) (hs : OkS s) (h0 : s.st = 3) (hl : (xs.length : Int) = s.pad) (hp : 0 < xs.length) (hb : ∀ x ∈ xs, 0 ≤ x ∧ x < 256) (ha : s.at_ + xs.length ≤ 1099511627776) :
    foldB (s, a) xs = ({ s with at_ := s.at_ + xs.length, pad := 0, st := 0 }, a) ∧ OkS { s with at_ := s.at_ + xs.length, pad := 0, st := 0 } := by
  have hr : s.round xs = ({ s with at_ := s.at_ + xs.length, pad := 0, st := 0 }, xs.length) := by
    unfold PSt.round
    rw [if_neg (by omega), if_neg (by omega), if_neg (by omega)]
    have hn : min xs.length s.pad.toNat = xs.length := by omega
    simp only [hn]
    have e : s.pad - (xs.length : Int) = 0 := by omega
    rw [e, if_pos rfl]
  have q := fold_round s _ xs a hs (by omega) hp hb ha hr
  have ho := hs.out
  have e : (({ ({ s with at_ := s.at_ + xs.length, pad := 0, st := 0 } : PSt) with out := [] } : PSt)) = { s with at_ := s.at_ + xs.length, pad := 0, st := 0 } := by
    obtain ⟨_, _, _, _, _, _, _, _, _, _, _, _, _, _, _, o⟩ := s
    cases ho
    rfl
  rw [e] at q
  refine ⟨?_, q.2⟩
  rw [q.1]
  have : ({ s with at_ := s.at_ + xs.length, pad := 0, st := 0 } : PSt).out = [] := ho
  rw [this]
  rfl
theorem fold_data (s : PSt) (xs : List Int) (a : Option Arc) (hs : OkS s) (h0 : s.st = 2) (hl : (xs.length : Int) = s.left) (hp : 0 < xs.length) (hb : ∀ x ∈ xs, 0 ≤ x ∧ x < 256) (ha : s.at_ + xs.length ≤ 1099511627776) :
    foldB (s, a) xs = ({ s with at_ := s.at_ + xs.length, left := 0, st := if s.pad = 0 then 0 else 3 }, Arc.evs a [⟨.dat xs, s.at_ + xs.length⟩, ⟨.fin, s.at_ + xs.length⟩]) ∧ OkS { s with at_ := s.at_ + xs.length, left := 0, st := if s.pad = 0 then 0 else 3 } := by
  have ho := hs.out
  have hr : s.round xs = ({ s with at_ := s.at_ + xs.length, left := 0, st := if s.pad = 0 then 0 else 3, out := [⟨.dat xs, s.at_ + xs.length⟩, ⟨.fin, s.at_ + xs.length⟩] }, xs.length) := by
    unfold PSt.round
    rw [if_neg (by omega), if_neg (by omega), if_pos h0]
    have hn : min xs.length s.left.toNat = xs.length := by omega
    simp only [hn, List.take_length]
    have e : s.left - (xs.length : Int) = 0 := by omega
    rw [e, if_pos rfl]
    simp [PSt.finish, PSt.say, PSt.skip, ho]
  have q := fold_round s _ xs a hs (by omega) hp hb ha hr
  have e : (({ ({ s with at_ := s.at_ + xs.length, left := 0, st := if s.pad = 0 then 0 else 3, out := [⟨.dat xs, s.at_ + xs.length⟩, ⟨.fin, s.at_ + xs.length⟩] } : PSt) with out := [] } : PSt)) = { s with at_ := s.at_ + xs.length, left := 0, st := if s.pad = 0 then 0 else 3 } := by
    obtain ⟨_, _, _, _, _, _, _, _, _, _, _, _, _, _, _, o⟩ := s
    cases ho
    rfl
  rw [e] at q
  exact q
/-- Two blocks of zeros at a header: the end. -/
theorem zeros_blank : blankV (List.replicate 512 0) = true := by decide +kernel
theorem fold_end (s : PSt) (a : Option Arc) (hs : OkS s) (h0 : s.st = 0) (hbl : s.block = []) (hnb : s.blank = false) (ha : s.at_ + 1024 ≤ 1099511627776) :
    ∃ s', foldB (s, a) (List.replicate 1024 0) = (s', Arc.evs a [⟨.don, s.at_ + 1024⟩]) ∧ s'.st = 4 ∧ s'.err = s.err ∧ s'.done = true ∧ s'.at_ = s.at_ + 1024 := by
  have hz : ∀ x ∈ List.replicate 512 (0 : Int), 0 ≤ x ∧ x < 256 := by
    intro x hx
    rw [List.eq_of_mem_replicate hx]
    omega
  have e : List.replicate 1024 (0 : Int) = List.replicate 512 0 ++ List.replicate 512 0 := by rw [List.replicate_append_replicate]
  rw [e, foldB_append]
  obtain ⟨q1, q2⟩ := fold_head s (List.replicate 512 0) a hs h0 hbl List.length_replicate hz (by omega) { s with block := List.replicate 512 0, at_ := s.at_ + 512, place := s.at_, blank := true } (by
    unfold PSt.head
    rw [if_pos zeros_blank, if_neg (by show ¬ s.blank = true; rw [hnb]; decide)])
  have ho := hs.out
  rw [q1]
  obtain ⟨r1, r2⟩ := fold_head { s with block := [], at_ := s.at_ + 512, place := s.at_, blank := true, out := [] } (List.replicate 512 0) (Arc.evs a s.out) q2 h0 rfl List.length_replicate hz (by show s.at_ + 512 + 512 ≤ _; omega)
    { s with block := List.replicate 512 0, at_ := s.at_ + 512 + 512, place := s.at_ + 512, blank := true, st := 4, done := true, out := [⟨.don, s.at_ + 512 + 512⟩] } (by
    unfold PSt.head
    rw [if_pos zeros_blank, if_pos rfl]
    rfl)
  refine ⟨{ s with block := [], at_ := s.at_ + 512 + 512, place := s.at_ + 512, blank := true, st := 4, done := true, out := [] }, ?_, rfl, rfl, rfl, by show s.at_ + 512 + 512 = _; omega⟩
  refine Eq.trans (show _ = (({ s with block := [], at_ := s.at_ + 512 + 512, place := s.at_ + 512, blank := true, st := 4, done := true, out := [] }, Arc.evs (Arc.evs a s.out) [⟨.don, s.at_ + 512 + 512⟩]) : J) from r1) ?_
  rw [ho, show s.at_ + 512 + 512 = s.at_ + 1024 by omega]
  rfl
end Go.Proofs.YtpbpfngichfgeaaGreatDoor

namespace Go.Proofs.YtpbpfngichfgeaaGreatDoor
set_option linter.unusedVariables false
set_option linter.unusedSimpArgs false
open Go Go.RowKit Go.Proofs.YtpbpfngichfgeaaGreatDoorW.PrintWords Go.Proofs.YtpbpfngichfgeaaGreatDoorW.PrintLast Go.Proofs.YtpbpfngichfgeaaGreatDoorW.PrintMore

/-- The parser stands at a header. -/
structure AtHead (s : PSt) (p : Int) (g l : List Rec) (nm lk : ByteArray) : Prop where
  ok : OkS s
  st : s.st = 0
  bl : s.block = []
  nb : s.blank = false
  g : s.glob = g
  l : s.loc = l
  nm : s.nm = nm
  lk : s.lk = lk
  at_ : s.at_ = p
  er : s.err = none
theorem atHead0 : AtHead ps0 0 [] [] ⟨#[]⟩ ⟨#[]⟩ := ⟨oks0, rfl, rfl, rfl, rfl, rfl, rfl, rfl, rfl, rfl⟩
section
variable {s : PSt} {p : Int} {g l : List Rec} {nm lk : ByteArray} (H : AtHead s p g l nm lk) (b : List Int) (h : Hd) (hl : b.length = 512) (hb : ∀ x ∈ b, 0 ≤ x ∧ x < 256) (hbl : blankV b = false) (hdv : decV b = (h, 0))
include H hl hb hbl hdv
theorem head_thing (en : En) (hc : clsOf h.typ = 1) (hm : mkE h g l nm lk = (en, 0)) (hz : en.sz = 0) (a : Option Arc) (hp : p + 512 ≤ 1099511627776) :
    ∃ s', AtHead s' (p + 512) g [] ⟨#[]⟩ ⟨#[]⟩ ∧ foldB (s, a) b = (s', Arc.evs a [⟨.beg en, p + 512⟩, ⟨.fin, p + 512⟩]) := by
  obtain ⟨o1, o2, o3, o4, o5, o6, o7, o8, o9, o10⟩ := H
  have ho := o1.out
  have hh : ({ s with block := b, at_ := s.at_ + 512, place := s.at_ } : PSt).head = { s with block := b, at_ := p + 512, place := p, cls := 1, loc := [], nm := ⟨#[]⟩, lk := ⟨#[]⟩, st := 0, left := 0, pad := 0, out := [⟨.beg en, p + 512⟩, ⟨.fin, p + 512⟩] } := by
    unfold PSt.head
    simp only
    rw [if_neg (by rw [hbl]; decide), if_neg (by rw [o4]; decide), hdv]
    simp only
    rw [if_neg (by decide), hc, if_neg (by decide), if_pos rfl]
    unfold PSt.thing
    simp only
    rw [o5, o6, o7, o8, hm]
    simp only
    rw [if_neg (by decide), hz, if_pos rfl]
    simp [PSt.finish, PSt.say, PSt.skip, ho, o9, padOf]
  obtain ⟨q1, q2⟩ := fold_head s b a o1 o2 o3 hl hb (by rw [o9]; exact hp) _ hh
  exact ⟨_, ⟨q2, rfl, rfl, o4, o5, rfl, rfl, rfl, rfl, o10⟩, q1⟩
theorem head_data (en : En) (hc : clsOf h.typ = 1) (hm : mkE h g l nm lk = (en, 0)) (hz : 0 < en.sz) (a : Option Arc) (hp : p + 512 ≤ 1099511627776) :
    ∃ s', OkS s' ∧ s'.st = 2 ∧ s'.left = en.sz ∧ s'.pad = padOf en.sz ∧ s'.block = [] ∧ s'.blank = false ∧ s'.glob = g ∧ s'.loc = [] ∧ s'.nm = ⟨#[]⟩ ∧ s'.lk = ⟨#[]⟩ ∧ s'.at_ = p + 512 ∧ s'.err = none ∧ foldB (s, a) b = (s', Arc.evs a [⟨.beg en, p + 512⟩]) := by
  obtain ⟨o1, o2, o3, o4, o5, o6, o7, o8, o9, o10⟩ := H
  have ho := o1.out
  have hh : ({ s with block := b, at_ := s.at_ + 512, place := s.at_ } : PSt).head = { s with block := b, at_ := p + 512, place := p, cls := 1, loc := [], nm := ⟨#[]⟩, lk := ⟨#[]⟩, st := 2, left := en.sz, pad := padOf en.sz, out := [⟨.beg en, p + 512⟩] } := by
    unfold PSt.head
    simp only
    rw [if_neg (by rw [hbl]; decide), if_neg (by rw [o4]; decide), hdv]
    simp only
    rw [if_neg (by decide), hc, if_neg (by decide), if_pos rfl]
    unfold PSt.thing
    simp only
    rw [o5, o6, o7, o8, hm]
    simp only
    rw [if_neg (by decide), if_neg (by omega)]
    simp [PSt.say, ho, o9]
  obtain ⟨q1, q2⟩ := fold_head s b a o1 o2 o3 hl hb (by rw [o9]; exact hp) _ hh
  exact ⟨_, q2, rfl, rfl, rfl, rfl, o4, o5, rfl, rfl, rfl, rfl, o10, q1⟩
/-- A whole entry with bytes, and what fills them up. -/
theorem fold_thing (en : En) (hc : clsOf h.typ = 1) (hm : mkE h g l nm lk = (en, 0)) (data fill : List Int) (hz : (data.length : Int) = en.sz) (hf : (fill.length : Int) = padOf en.sz) (hd : ∀ x ∈ data, 0 ≤ x ∧ x < 256) (hfb : ∀ x ∈ fill, 0 ≤ x ∧ x < 256)
    (a : Option Arc) (hp : p + 512 + data.length + 512 ≤ 1099511627776) :
    ∃ s', AtHead s' (p + 512 + data.length + fill.length) g [] ⟨#[]⟩ ⟨#[]⟩ ∧
      foldB (s, a) (b ++ (data ++ fill)) = (s', Arc.evs a (if data = [] then [⟨.beg en, p + 512⟩, ⟨.fin, p + 512⟩] else [⟨.beg en, p + 512⟩, ⟨.dat data, p + 512 + data.length⟩, ⟨.fin, p + 512 + data.length⟩])) := by
  rcases Nat.eq_zero_or_pos data.length with h0 | h0
  · obtain rfl : data = [] := List.length_eq_zero_iff.1 h0
    have e0 : en.sz = 0 := by rw [← hz]; rfl
    rw [e0] at hf
    have ef : fill = [] := List.length_eq_zero_iff.1 (by unfold padOf at hf; omega)
    subst ef
    obtain ⟨s', k1, k2⟩ := head_thing H b h hl hb hbl hdv en hc hm e0 a (by simp at hp; omega)
    refine ⟨s', ?_, by rw [if_pos rfl, List.append_nil, List.append_nil]; exact k2⟩
    have : p + 512 + (([] : List Int).length : Int) + (([] : List Int).length : Int) = p + 512 := by simp
    rw [this]
    exact k1
  · have hne : data ≠ [] := fun e => by rw [e] at h0; simp at h0
    rw [if_neg hne]
    obtain ⟨s1, j1, j2, j3, j4, j5, j6, j7, j8, j9, j10, j11, j12, j13⟩ := head_data H b h hl hb hbl hdv en hc hm (by omega) a (by omega)
    obtain ⟨k1, k2⟩ := fold_data s1 data (Arc.evs a [⟨.beg en, p + 512⟩]) j1 j2 (by omega) h0 hd (by rw [j11]; omega)
    rw [j11] at k1 k2
    have e3 : foldB (s, a) (b ++ (data ++ fill)) = foldB (foldB (foldB (s, a) b) data) fill := by rw [foldB_append, foldB_append]
    have ee : Arc.evs (Arc.evs a [⟨.beg en, p + 512⟩]) [⟨.dat data, p + 512 + data.length⟩, ⟨.fin, p + 512 + data.length⟩] = Arc.evs a [⟨.beg en, p + 512⟩, ⟨.dat data, p + 512 + data.length⟩, ⟨.fin, p + 512 + data.length⟩] := by rw [← evs_append]; rfl
    rw [e3, j13, k1, ee]
    rcases Nat.eq_zero_or_pos fill.length with f0 | f0
    · obtain rfl : fill = [] := List.length_eq_zero_iff.1 f0
      have ep : s1.pad = 0 := by rw [j4, ← hf]; rfl
      refine ⟨_, ?_, rfl⟩
      refine ⟨k2, ?_, j5, j6, j7, j8, j9, j10, ?_, j12⟩
      · show (if s1.pad = 0 then (0 : Int) else 3) = 0
        rw [if_pos ep]
      · show p + 512 + (data.length : Int) = p + 512 + data.length + (([] : List Int).length : Int)
        simp
    · have ep : s1.pad = fill.length := by rw [j4, hf]
      have est : (if s1.pad = 0 then (0 : Int) else 3) = 3 := if_neg (by omega)
      rw [est] at k2 ⊢
      have hpl : (fill.length : Int) ≤ 511 := by rw [hf]; unfold padOf; omega
      obtain ⟨r1, r2⟩ := fold_pad _ fill (Arc.evs a [⟨.beg en, p + 512⟩, ⟨.dat data, p + 512 + data.length⟩, ⟨.fin, p + 512 + data.length⟩]) k2 rfl (by show (fill.length : Int) = s1.pad; omega) f0 hfb (by show p + 512 + (data.length : Int) + fill.length ≤ _; omega)
      exact ⟨_, ⟨r2, rfl, j5, j6, j7, j8, j9, j10, rfl, j12⟩, r1⟩
/-- A header of records, and the records. -/
theorem fold_recs (hc : clsOf h.typ = 2 ∨ clsOf h.typ = 3) (body fill : List Int) (recs : List Rec) (hz : (body.length : Int) = h.size) (h0 : 0 < body.length) (h1 : body.length ≤ 8192) (hf : (fill.length : Int) = padOf h.size) (hd : ∀ x ∈ body, 0 ≤ x ∧ x < 256) (hfb : ∀ x ∈ fill, 0 ≤ x ∧ x < 256)
    (hr : paxV body = (recs, 0)) (hn : g.length + recs.length ≤ 64 ∧ l.length + recs.length ≤ 64) (a : Option Arc) (hp : p + 512 + body.length + 512 ≤ 1099511627776) :
    ∃ s', AtHead s' (p + 512 + body.length + fill.length) (if clsOf h.typ = 3 then g ++ recs else g) (if clsOf h.typ = 3 then l else l ++ recs) nm lk ∧ foldB (s, a) (b ++ (body ++ fill)) = (s', a) := by
  obtain ⟨o1, o2, o3, o4, o5, o6, o7, o8, o9, o10⟩ := H
  have ho := o1.out
  have hh : ({ s with block := b, at_ := s.at_ + 512, place := s.at_ } : PSt).head = { s with block := b, at_ := p + 512, place := p, cls := clsOf h.typ, st := 1, left := h.size, pad := padOf h.size, text := [] } := by
    unfold PSt.head
    simp only
    rw [if_neg (by rw [hbl]; decide), if_neg (by rw [o4]; decide), hdv]
    simp only
    rw [if_neg (by decide), if_neg (by omega), if_neg (by omega), if_neg (by omega), if_neg (by omega), if_neg (by omega), o9]
  obtain ⟨q1, q2⟩ := fold_head s b a o1 o2 o3 hl hb (by rw [o9]; omega) _ hh
  have e3 : foldB (s, a) (b ++ (body ++ fill)) = foldB (foldB (foldB (s, a) b) body) fill := by rw [foldB_append, foldB_append]
  obtain ⟨c, hcc⟩ : ∃ c, clsOf h.typ = c := ⟨_, rfl⟩
  rw [hcc] at hc q1 q2 ⊢
  have hrd : ({ s with block := [], at_ := p + 512, place := p, cls := c, st := 1, left := h.size, pad := padOf h.size, text := [], out := [] } : PSt).round body =
      ({ s with block := [], at_ := p + 512 + body.length, place := p, cls := c, st := if padOf h.size = 0 then 0 else 3, left := 0, pad := padOf h.size, text := body, out := [], glob := (if c = 3 then g ++ recs else g), loc := (if c = 3 then l else l ++ recs) }, body.length) := by
    unfold PSt.round
    rw [if_neg (by show ¬ (1 : Int) = 0; decide), if_pos (by rfl)]
    have hn2 : min body.length h.size.toNat = body.length := by omega
    simp only [hn2, List.take_length]
    have e : h.size - (body.length : Int) = 0 := by omega
    rw [e, if_pos rfl]
    unfold PSt.told
    simp only [List.nil_append]
    rw [if_neg (by omega), if_neg (by omega), hr]
    simp only
    rw [if_neg (by decide)]
    rcases hc with rfl | rfl
    · rw [if_neg (by decide), if_neg (by rw [o6]; omega)]
      simp [PSt.skip, o5, o6]
    · rw [if_pos rfl, if_neg (by rw [o5]; omega)]
      simp [PSt.skip, o5, o6]
  obtain ⟨r1, r2⟩ := fold_round _ _ body (Arc.evs a s.out) q2 (by show (1 : Int) ≠ 4; decide) h0 hd (by show p + 512 + (body.length : Int) ≤ _; omega) hrd
  have ea : Arc.evs a s.out = a := by rw [ho]; rfl
  have q1' : foldB (s, a) b = ({ s with block := [], at_ := p + 512, place := p, cls := c, st := 1, left := h.size, pad := padOf h.size, text := [], out := [] }, Arc.evs a s.out) := q1
  rw [e3, q1', r1]
  rw [show Arc.evs (Arc.evs a s.out) ([] : List Evt) = a from ea]
  rcases Nat.eq_zero_or_pos fill.length with f0 | f0
  · obtain rfl : fill = [] := List.length_eq_zero_iff.1 f0
    have ep : padOf h.size = 0 := by rw [← hf]; rfl
    refine ⟨_, ?_, rfl⟩
    refine ⟨r2, ?_, rfl, o4, rfl, rfl, o7, o8, ?_, o10⟩
    · show (if padOf h.size = 0 then (0 : Int) else 3) = 0
      rw [if_pos ep]
    · show p + 512 + (body.length : Int) = p + 512 + body.length + (([] : List Int).length : Int)
      simp
  · have est : (if padOf h.size = 0 then (0 : Int) else 3) = 3 := if_neg (by omega)
    rw [est] at r2 ⊢
    have hpl : (fill.length : Int) ≤ 511 := by rw [hf]; unfold padOf; omega
    obtain ⟨t1, t2⟩ := fold_pad _ fill a r2 rfl (by show (fill.length : Int) = padOf h.size; exact hf) f0 hfb (by show p + 512 + (body.length : Int) + fill.length ≤ _; omega)
    exact ⟨_, ⟨t2, rfl, rfl, o4, rfl, rfl, o7, o8, rfl, o10⟩, t1⟩
end
/-- The end of an archive, behind whole entries. -/
theorem arc_end {s : PSt} {p : Int} {g l : List Rec} {nm lk : ByteArray} (H : AtHead s p g l nm lk) (b : Arc) (hv : b.over = false) (hp : p + 1024 ≤ 1099511627776) (xs : List Int) (hx : foldB j0 xs = (s, some b)) :
    ∃ s', foldB j0 (xs ++ List.replicate 1024 0) = (s', some { b with done := true, over := true }) ∧ s'.endE = none ∧ s'.at_ = p + 1024 := by
  obtain ⟨s', h1, h2, h3, h4, h5⟩ := fold_end s (some b) H.ok H.st H.bl H.nb (by rw [H.at_]; exact hp)
  refine ⟨s', ?_, ?_, by rw [h5, H.at_]⟩
  · rw [foldB_append, hx, h1]
    simp [Arc.evs, Arc.ev, hv]
  · unfold PSt.endE
    rw [h3, h4, H.er]
    simp
end Go.Proofs.YtpbpfngichfgeaaGreatDoor

namespace Go.Proofs.YtpbpfngichfgeaaGreatDoor
set_option linter.unusedVariables false
set_option linter.unusedSimpArgs false
open Go Go.RowKit Go.Proofs.YtpbpfngichfgeaaGreatDoorW.PrintWords Go.Proofs.YtpbpfngichfgeaaGreatDoorW.PrintLast Go.Proofs.YtpbpfngichfgeaaGreatDoorW.PrintMore

end Go.Proofs.YtpbpfngichfgeaaGreatDoor
