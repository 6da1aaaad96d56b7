/-
  Several texts in one: YtpbpfngichfgeaaGreatDoorPushE, YtpbpfngichfgeaaGreatDoorPushMetaL.
-/
import Derived.Test.YtpbpfngichfgeaaGreatDoorPushN
import Derived.Test.YtpbpfngichfgeaaGreatDoorHdrO
import Derived.Test.YtpbpfngichfgeaaGreatDoorFaults
namespace Go.Proofs.YtpbpfngichfgeaaGreatDoor
set_option linter.unusedVariables false
set_option linter.unusedSectionVars false
set_option linter.unusedSimpArgs false
open Go Go.RowKit Go.Proofs.YtpbpfngichfgeaaGreatDoorW.PrintWords Go.Proofs.YtpbpfngichfgeaaGreatDoorW.PrintLast Go.Proofs.YtpbpfngichfgeaaGreatDoorW.PrintMore

theorem kEv_of_M {w : World} {base : Nat} {ok : Nat → Prop} {x : Evt} {cs : List Value} (h : kEv.M w base ok x cs) : ∃ vd, cs = evCells x.k vd x.at_ ∧ Kd.R (Kd.int .u8) 5 w base ok vd x.k.data := by
  obtain ⟨c0, c1, rfl, h0, h1⟩ := h
  obtain rfl : c0 = [.int .i64 x.k.num] := h0
  obtain ⟨ce, c2, rfl, he, h2⟩ := h1
  obtain ⟨cd, c3, rfl, hd, h3⟩ := h2
  obtain ⟨vd, rfl, hR⟩ := hd
  obtain ⟨cr, c4, rfl, hr, h4⟩ := h3
  obtain rfl : cr = [errV x.k.err] := hr
  obtain rfl : c4 = [.int .i64 x.at_] := h4
  obtain ⟨e0, f0, rfl, a0, b0⟩ := he
  obtain ⟨e1, f1, rfl, a1, b1⟩ := b0
  obtain ⟨e2, f2, rfl, a2, b2⟩ := b1
  obtain ⟨e3, f3, rfl, a3, b3⟩ := b2
  obtain ⟨e4, f4, rfl, a4, b4⟩ := b3
  obtain ⟨e5, f5, rfl, a5, b5⟩ := b4
  obtain ⟨e6, f6, rfl, a6, b6⟩ := b5
  obtain ⟨e7, f7, rfl, a7, b7⟩ := b6
  obtain ⟨e8, f8, rfl, a8, b8⟩ := b7
  obtain rfl : e0 = [.string x.k.en.path] := a0
  obtain rfl : e1 = [.string x.k.en.link] := a1
  obtain rfl : e2 = [.int .i64 x.k.en.kd] := a2
  obtain rfl : e3 = [.int .i64 x.k.en.md] := a3
  obtain rfl : e4 = [.int .i64 x.k.en.uid] := a4
  obtain rfl : e5 = [.int .i64 x.k.en.gid] := a5
  obtain rfl : e6 = [.int .i64 x.k.en.mt] := a6
  obtain rfl : e7 = [.int .i64 x.k.en.sz] := a7
  obtain rfl : e8 = [.string x.k.en.user] := a8
  obtain rfl : f8 = [.string x.k.en.group] := b8
  exact ⟨vd, rfl, hR⟩
instance : Inhabited Evt := ⟨⟨.fin, 0⟩⟩
/-- Event number i of a row of events: its cells. -/
theorem ev_at {w : World} {base : Nat} {ok : Nat → Prop} {g n cap : Nat} {out : List Evt} (h : Kd.R kEv 43 w base ok (.slice (some ⟨g, 0, none⟩) n cap) out) (i : Nat) (hi : i < n) (x : Evt) (hx : out.getD i default = x) :
    ∃ vd, (∀ j u, (evCells x.k vd x.at_)[j]? = some u → w.cell? ⟨g, i * 14 + j, none⟩ = some u) ∧ Kd.R (Kd.int .u8) 5 w base (fun k => ok k ∧ k ≠ g) vd x.k.data := by
  obtain ⟨c, hcl, hM, hcc, _⟩ := Kd.R_elem h (default : Evt) (i : Int) (by omega) (by omega)
  simp only [Int.toNat_natCast] at hM hcc
  rw [hx] at hM
  obtain ⟨vd, rfl, hR⟩ := kEv_of_M hM
  exact ⟨vd, hcc, hR⟩
/-- A row that is none of the parser's blocks reads the same whatever Feed does. -/
theorem in_of_R {w : World} {F0 : Nat → Prop} {base c : Nat} {ok : Nat → Prop} {A : Option Addr} {n : Nat} {xs : List Int} (h : Kd.R (Kd.int .u8) 5 w base ok (.slice A n c) xs) (hn : ∀ k, (Value.slice A n c).ownBlock = some k → ¬ F0 k) : In w F0 A xs := by
  intro W hW
  have r := Kd.R_step (Kd.R_tight rfl h) (w1 := W) (fun k hk hlt => hW.block k hlt (hn k hk.symm))
  exact (Kd.R_reads' r).2.2
theorem cell_below {w w' : World} {a : Addr} {v : Value} (hb : Below w.heap.size w w') (ha : a.block < w.heap.size) (h : w.cell? a = some v) : w'.cell? a = some v := by
  rw [← h]
  unfold World.cell?
  rw [hb.block a.block ha]
theorem ng_of_env {w : World} (h : EnvE w) : 7 ≤ w.heap.size := h.env.size
end Go.Proofs.YtpbpfngichfgeaaGreatDoor

namespace Go.Proofs.YtpbpfngichfgeaaGreatDoor
set_option linter.unusedVariables false
set_option linter.unusedSectionVars false
set_option linter.unusedSimpArgs false
open Go Go.RowKit Go.Proofs.YtpbpfngichfgeaaGreatDoorW.PrintWords Go.Proofs.YtpbpfngichfgeaaGreatDoorW.PrintLast Go.Proofs.YtpbpfngichfgeaaGreatDoorW.PrintMore

/-- A whole block of 512 bytes at the parser's head. -/
theorem feed_head (k : Nat) (s : PSt) (b rest : List Int) (hl : b.length = 512) (h0 : s.st = 0) (hb : s.block = []) :
    PSt.feedL (k + 1) s (b ++ rest) = PSt.feedL k { ({ s with block := b, at_ := s.at_ + 512, place := s.at_ } : PSt).head with block := [] } rest := by
  have hne : ¬ (b ++ rest = [] ∨ s.st = 4) := by
    intro e
    rcases e with e | e
    · have : (b ++ rest).length = 0 := by rw [e]; rfl
      rw [List.length_append] at this
      omega
    · omega
  show (if b ++ rest = [] ∨ s.st = 4 then s else PSt.feedL k (s.round (b ++ rest)).1 ((b ++ rest).drop (s.round (b ++ rest)).2)) = _
  rw [if_neg hne]
  have hr : s.round (b ++ rest) = ({ ({ s with block := b, at_ := s.at_ + 512, place := s.at_ } : PSt).head with block := [] }, 512) := by
    unfold PSt.round
    rw [if_pos h0]
    have hn : min (b ++ rest).length (512 - s.block.length) = 512 := by rw [hb, List.length_append]; simp; omega
    have ht : s.block ++ (b ++ rest).take 512 = b := by rw [hb, List.take_left' hl]; rfl
    simp only [hn]
    rw [ht, if_pos hl]
    have e1 : s.at_ + ((512 : Nat) : Int) - 512 = s.at_ := by omega
    rw [e1]
    rfl
  rw [hr]
  simp only
  rw [List.drop_left' hl]
section
variable {name link pre user group : ByteArray} {typ mode uid gid size mtime : Int} (hf : HdrFits name link pre user group typ mode uid gid size mtime)
include hf
theorem hdrL_blank (ht : typ ≠ 0) : blankV (hdrL name link pre user group typ mode uid gid size mtime) = false := by
  cases h : blankV (hdrL name link pre user group typ mode uid gid size mtime) with
  | false => rfl
  | true =>
    unfold blankV at h
    rw [Bool.and_eq_true, List.all_eq_true] at h
    have := h.1 typ (List.mem_of_getElem? (hdrL_typ hf))
    simp at this
    exact absurd this ht
end
theorem told_empty (s : PSt) (ht : s.text = []) (hc : s.cls = 2 ∨ s.cls = 3 ∨ s.cls = 4 ∨ s.cls = 5) (hg : s.glob = []) (hl : s.loc = []) : s.told.out = s.out ∧ s.told.err = s.err ∧ s.told.done = s.done ∧ s.told.at_ = s.at_ := by
  have hp : paxV s.text = ([], 0) := by rw [ht]; decide +kernel
  unfold PSt.told
  rw [hp, hg, hl]
  rcases hc with h | h | h | h <;> simp [h, PSt.skip]
def metaB (typ size : Int) : List Int := hdrL ⟨#[112]⟩ ⟨#[]⟩ ⟨#[]⟩ ⟨#[]⟩ ⟨#[]⟩ typ 0 0 0 size 0
theorem metaFits {typ size : Int} (ht : typ = 120 ∨ typ = 103 ∨ typ = 76 ∨ typ = 75) (h0 : 0 ≤ size) (h1 : size < 8589934592) : HdrFits ⟨#[112]⟩ ⟨#[]⟩ ⟨#[]⟩ ⟨#[]⟩ ⟨#[]⟩ typ 0 0 0 size 0 := by
  refine ⟨by decide +kernel, ?_, by omega, by omega⟩
  intro k hk
  unfold octFits
  rcases (by omega : k = 0 ∨ k = 1 ∨ k = 2 ∨ k = 3 ∨ k = 4) with rfl | rfl | rfl | rfl | rfl
  · show (0 : Int) ≤ 0 ∧ (0 : Int) < 8 ^ 7; decide
  · show (0 : Int) ≤ 0 ∧ (0 : Int) < 8 ^ 7; decide
  · show (0 : Int) ≤ 0 ∧ (0 : Int) < 8 ^ 7; decide
  · exact ⟨h0, h1⟩
  · show (0 : Int) ≤ 0 ∧ (0 : Int) < 8 ^ 11; decide
theorem meta_feed {typ size : Int} (ht : typ = 120 ∨ typ = 103 ∨ typ = 76 ∨ typ = 75) (h0 : 0 ≤ size) (h1 : size < 8589934592) :
    (8192 < size → (ps0.feed (metaB typ size)).out = [⟨.bad 2 0, 512⟩]) ∧
    (size ≤ 8192 → (ps0.feed (metaB typ size)).out = [] ∧ (ps0.feed (metaB typ size)).err = none ∧ (ps0.feed (metaB typ size)).done = false ∧ (ps0.feed (metaB typ size)).at_ = 512) := by
  have hf := metaFits ht h0 h1
  have hlen : (metaB typ size).length = 512 := hdrL_length hf
  have hbl : blankV (metaB typ size) = false := hdrL_blank hf (by omega)
  have hdv : decV (metaB typ size) = (⟨1, ⟨#[112]⟩, ⟨#[]⟩, ⟨#[]⟩, ⟨#[]⟩, ⟨#[]⟩, typ, 0, 0, 0, size, 0⟩, 0) := decV_hdrL hf
  have hcl : clsOf typ = 2 ∨ clsOf typ = 3 ∨ clsOf typ = 4 ∨ clsOf typ = 5 := by
    rcases ht with rfl | rfl | rfl | rfl <;> decide
  have hfd : ps0.feed (metaB typ size) = { ({ ps0 with block := metaB typ size, at_ := 512, place := 0 } : PSt).head with block := [] } := by
    unfold PSt.feed
    have := feed_head (metaB typ size).length ps0 (metaB typ size) [] hlen rfl rfl
    rw [List.append_nil] at this
    refine (show _ = _ from this).trans ?_
    rw [hlen]
    exact feedL_nil 511 _ _ (.inl rfl)
  obtain ⟨c, hc⟩ : ∃ c, clsOf typ = c := ⟨_, rfl⟩
  rw [hc] at hcl
  have hhd : ({ ps0 with block := metaB typ size, at_ := 512, place := 0 } : PSt).head = if 8192 < size then ({ ps0 with block := metaB typ size, at_ := 512, place := 0, cls := c } : PSt).bad 2 else
      if size = 0 then ({ ps0 with block := metaB typ size, at_ := 512, place := 0, cls := c, st := 1, left := size, pad := padOf size, text := [] } : PSt).told else { ps0 with block := metaB typ size, at_ := 512, place := 0, cls := c, st := 1, left := size, pad := padOf size, text := [] } := by
    unfold PSt.head
    simp only
    rw [if_neg (by rw [hbl]; decide), if_neg (by decide), hdv]
    simp only
    rw [if_neg (by decide), hc, if_neg (by omega), if_neg (by omega), if_neg (by omega)]
  rw [hfd, hhd]
  refine ⟨fun hb => ?_, fun hb => ?_⟩
  · rw [if_pos hb]
    rfl
  · rw [if_neg (by omega)]
    by_cases hz : size = 0
    · rw [if_pos hz]
      obtain ⟨t1, t2, t3, t4⟩ := told_empty { ps0 with block := metaB typ size, at_ := 512, place := 0, cls := c, st := 1, left := size, pad := padOf size, text := [] } rfl hcl rfl rfl
      exact ⟨t1, t2, t3, t4⟩
    · rw [if_neg hz]
      exact ⟨rfl, rfl, rfl, rfl⟩
end Go.Proofs.YtpbpfngichfgeaaGreatDoor
