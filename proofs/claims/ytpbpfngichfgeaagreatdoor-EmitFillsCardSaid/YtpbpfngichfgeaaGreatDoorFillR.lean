/-
  Several texts in one: YtpbpfngichfgeaaGreatDoorFillA, YtpbpfngichfgeaaGreatDoorFillB.
-/
import Derived.Test.YtpbpfngichfgeaaGreatDoorPemR
import Derived.Test.YtpbpfngichfgeaaGreatDoorGlobR
import Derived.Test.YtpbpfngichfgeaaGreatDoorWsR
namespace Go.Proofs.YtpbpfngichfgeaaGreatDoor
set_option linter.unusedVariables false
set_option linter.unusedSimpArgs false
open Go Go.RowKit Go.Proofs.YtpbpfngichfgeaaGreatDoorW.PrintWords

abbrev pathK : ByteArray := ⟨#[112, 97, 116, 104]⟩
/-- A file's entry. -/
def filEn (p : ByteArray) (n : Int) : En := ⟨p, ⟨#[]⟩, 1, 420, 0, 0, 0, n, ⟨#[]⟩, ⟨#[]⟩⟩
theorem fil_recs (p : ByteArray) (b : Bool) (n : Int) (h0 : 0 ≤ n) (h1 : n < 8589934592) : recsK (lEnt p ⟨#[]⟩ ⟨#[]⟩ ⟨#[]⟩ b 0 0 n 0) 8 = if b then [] else [(pathK, p)] := by
  have hf : fitsN n 12 = true := by
    unfold fitsN
    rw [decide_eq_true_eq]
    exact ⟨h0, by show n < 8 ^ 11; omega⟩
  have h3 : ∀ l0, lT l0 ⟨#[]⟩ ⟨#[]⟩ ⟨#[]⟩ 3 = l0 := fun l0 => by
    simp only [lT]
    rw [if_pos (by decide), if_pos (by decide), if_pos (by decide)]
  have h4 : ∀ l0, lN l0 0 0 n 0 4 = l0 := fun l0 => by
    simp only [lN]
    rw [if_pos (show fitsN (nN 0 0 n 0 3) (nWd 3) = true from (by decide : fitsN 0 12 = true)), if_pos (show fitsN (nN 0 0 n 0 2) (nWd 2) = true from hf), if_pos (show fitsN (nN 0 0 n 0 1) (nWd 1) = true from (by decide : fitsN 0 8 = true)), if_pos (show fitsN (nN 0 0 n 0 0) (nWd 0) = true from (by decide : fitsN 0 8 = true))]
  unfold lEnt
  rw [h3, h4]
  cases b with
  | true => rfl
  | false => 
    show recsK [(pathK, p)] 8 = [(pathK, p)]
    simp only [recsK, findM]
    rw [if_neg (by decide), if_neg (by decide), if_neg (by decide), if_neg (by decide), if_pos (by decide), if_neg (by decide), if_neg (by decide), if_neg (by decide)]
    rfl
theorem mkE_file (name pre : ByteArray) (n : Int) (h0 : 0 ≤ n) (l : List Rec) (p : ByteArray) (hl : (l = [] ∧ fullOf name pre = p) ∨ l = [(pathK, p)]) (hp : p ≠ ⟨#[]⟩) :
    mkE ⟨1, name, ⟨#[]⟩, pre, ⟨#[]⟩, ⟨#[]⟩, 48, 420, 0, 0, n, 0⟩ [] l ⟨#[]⟩ ⟨#[]⟩ = (filEn p n, 0) := by
  have hg : ∀ (key v : ByteArray), key ≠ pathK → getUpto [(pathK, v)] key 1 = none := by
    intro key v hk
    simp only [getUpto]
    rw [if_neg (fun e => hk e.symm)]
  have hy : ∀ v : ByteArray, getUpto [(pathK, v)] pathK 1 = some v := by
    intro v
    simp only [getUpto]
    rfl
  have hno : ∀ key, key ≠ pathK → lookup [] l key = ⟨#[]⟩ := by
    intro key hk
    rcases hl with ⟨rfl, _⟩ | rfl
    · rfl
    · unfold lookup
      show (match getUpto [(pathK, p)] key 1 with | some v => v | none => (getUpto [] key 0).getD ⟨#[]⟩) = _
      rw [hg key p hk]
      rfl
  have hpt : textOf [] l pathK ⟨#[]⟩ (fullOf name pre) = p := by
    rcases hl with ⟨rfl, e⟩ | rfl
    · unfold textOf
      have : lookup [] [] pathK = ⟨#[]⟩ := rfl
      rw [this, e]
      simp
    · unfold textOf
      have : lookup [] [(pathK, p)] pathK = p := by
        unfold lookup
        show (match getUpto [(pathK, p)] pathK 1 with | some v => v | none => (getUpto [] pathK 0).getD ⟨#[]⟩) = _
        rw [hy p]
      rw [this, if_pos hp]
  have hn : ∀ key v, key ≠ pathK → numOf [] l key v = some v := fun key v hk => by unfold numOf; rw [hno key hk]; simp
  have ht : ∀ key v, key ≠ pathK → textOf [] l key ⟨#[]⟩ v = v := fun key v hk => by unfold textOf; rw [hno key hk]; simp
  unfold mkE
  simp only
  rw [if_neg (by decide), hn _ _ (by decide), hn _ _ (by decide), hn _ _ (by decide), hn _ _ (by decide), hpt, ht _ _ (by decide), ht _ _ (by decide), ht _ _ (by decide)]
  simp only
  rw [if_neg (show ¬ (kindOf 48 = 1 ∧ (1 : Int) = 0 ∧ _) from fun q => absurd q.2.1 (by decide))]
  unfold finE
  rw [if_neg (by rw [if_pos (by decide)]; omega)]
  rfl
theorem body_pax (p : ByteArray) (hc : chkOf pathK p = 0) : paxV (PEmit.intsOf (recT pathK p).data.toList) = ([(pathK, p)], 0) := by
  have hs : strOfNums (PEmit.intsOf (recT pathK p).data.toList) = recT pathK p := strOfNums_bytes _
  have h1 := one_rec pathK p [] (recT pathK p) (by simp) hc
  have hne : recT pathK p ≠ ⟨#[]⟩ := by
    intro e
    have := recT_list pathK p (pathK.size + p.size + 3) rfl
    rw [e] at this
    have := congrArg List.length this
    simp at this
  obtain ⟨k, hk⟩ : ∃ k, (PEmit.intsOf (recT pathK p).data.toList).length + 1 = k + 2 := ⟨(PEmit.intsOf (recT pathK p).data.toList).length - 1, by
    have : 0 < (PEmit.intsOf (recT pathK p).data.toList).length := by
      unfold PEmit.intsOf
      rw [List.length_map, recT_list pathK p (pathK.size + p.size + 3) rfl]
      simp only [List.length_append, List.length_cons]
      omega
    omega⟩
  unfold paxV
  rw [hk, hs, paxL, if_neg hne, if_neg (by decide), h1]
  simp only
  rw [if_neg (by decide)]
  show paxL (k + 1) ⟨#[]⟩ [(pathK, p)] = _
  rw [paxL, if_pos rfl]
theorem file_tail {s : PSt} {p0 : Int} {l : List Rec} (H : AtHead s p0 [] l ⟨#[]⟩ ⟨#[]⟩) (nm pr p : ByteArray) (data fill : List Int) (hm : HdrFits nm ⟨#[]⟩ pr ⟨#[]⟩ ⟨#[]⟩ 48 420 0 0 (data.length : Int) 0) (hl : (l = [] ∧ fullOf nm pr = p) ∨ l = [(pathK, p)]) (hp : p ≠ ⟨#[]⟩)
    (hd : ∀ x ∈ data, 0 ≤ x ∧ x < 256) (hfb : ∀ x ∈ fill, 0 ≤ x ∧ x < 256) (hdl : data.length ≤ 2000) (hfl : (fill.length : Int) = padOf data.length) (hb : p0 ≤ 100000) :
    ∃ s' at_, AtHead s' (p0 + 512 + data.length + fill.length) [] [] ⟨#[]⟩ ⟨#[]⟩ ∧ foldB (s, some arc0) (hdrL nm ⟨#[]⟩ pr ⟨#[]⟩ ⟨#[]⟩ 48 420 0 0 data.length 0 ++ (data ++ fill)) = (s', some { arc0 with things := [⟨filEn p data.length, data, true, at_⟩] }) := by
  obtain ⟨s1, k1, k2⟩ := fold_thing H (hdrL nm ⟨#[]⟩ pr ⟨#[]⟩ ⟨#[]⟩ 48 420 0 0 data.length 0) ⟨1, nm, ⟨#[]⟩, pr, ⟨#[]⟩, ⟨#[]⟩, 48, 420, 0, 0, data.length, 0⟩ (hdrL_length hm) (hdrL_range hm) (hdrL_blank hm (by omega)) (decV_hdrL hm)
    (filEn p data.length) (show clsOf 48 = 1 by decide) (mkE_file nm pr data.length (by omega) l p hl hp) data fill rfl hfl hd hfb (some arc0) (by omega)
  refine ⟨s1, p0 + 512 + data.length, k1, k2.trans ?_⟩
  by_cases h0 : data = []
  · subst h0
    rw [if_pos rfl]
    simp [Arc.evs, Arc.ev, onLast, arc0]
  · rw [if_neg h0]
    simp [Arc.evs, Arc.ev, onLast, arc0, h0]
/-- What is written of a file's entry is read as that. -/
theorem emit_arc (p : ByteArray) (data fill bs : List Int) (h : PEmit.EmitOk p ⟨#[]⟩ ⟨#[]⟩ ⟨#[]⟩ 1 420 0 0 0 (data.length : Int) bs) (hd : ∀ x ∈ data, 0 ≤ x ∧ x < 256) (hfb : ∀ x ∈ fill, 0 ≤ x ∧ x < 256) (hl : data.length ≤ 2000) (hfl : (fill.length : Int) = padOf data.length) :
    bs.length ≤ 6000 ∧ (∀ x ∈ bs, 0 ≤ x ∧ x < 256) ∧ ∃ s F at_, foldB j0 (bs ++ (data ++ fill) ++ List.replicate 1024 0) = (s, some F) ∧ F.done = true ∧ F.over = true ∧ F.things = [⟨filEn p data.length, data, true, at_⟩] ∧ s.endE = none := by
  obtain ⟨pr, nm, b, typ, hgood, ht, hsp, hm, hbs⟩ := h
  have htyp : typ = 48 := by
    have : POct.kind_Type.f 1 = some 48 := by decide
    rw [this] at ht
    exact (Option.some.inj ht).symm
  subst htyp
  have hpne : p ≠ ⟨#[]⟩ := by
    intro e
    have h9 := hgood.2.2.2.2.2.2.2.2.2.1
    rw [e] at h9
    exact h9 (by simp)
  have t1 : tv ⟨#[]⟩ 100 = ⟨#[]⟩ := by decide
  have t2 : tv ⟨#[]⟩ 31 = ⟨#[]⟩ := by decide
  have n1 : nv 0 8 = 0 := by decide
  have n2 : nv 0 12 = 0 := by decide
  have n3 : nv (data.length : Int) 12 = data.length := by
    unfold nv fitsN
    rw [if_pos (by rw [decide_eq_true_eq]; exact ⟨by omega, by show (data.length : Int) < 8 ^ 11; omega⟩)]
  rw [fil_recs p b data.length (by omega) (by omega)] at hbs
  rw [t1, t2, n1, n2, n3] at hm hbs
  have hfl2 : (fill.length : Int) ≤ 511 := by rw [hfl]; unfold padOf; omega
  cases b with
  | true =>
    obtain ⟨_, hbs⟩ | ⟨h1, _⟩ := hbs
    rotate_left
    · exact absurd rfl h1
    simp only [if_true] at hm hbs
    rw [hbs]
    clear hbs
    have hfull : fullOf nm pr = p := by
      have h1 := split_path hsp
      unfold fullOf
      apply bytes_ext
      by_cases h0 : pr = ⟨#[]⟩
      · rw [if_pos h0]
        rw [h0, if_pos (by rfl)] at h1
        exact h1.symm
      · have hz : pr.size ≠ 0 := by
          intro q
          apply h0
          apply bytes_ext
          have h2 : pr.data.toList.length = 0 := by rw [data_length]; exact q
          rw [List.length_eq_zero_iff.1 h2]
        rw [if_neg h0]
        rw [if_neg hz] at h1
        rw [h1]
        simp only [ByteArray.data_append, Array.toList_append]
        simp
    obtain ⟨s1, at_, k1, k2⟩ := file_tail atHead0 nm pr p data fill hm (.inl ⟨rfl, hfull⟩) hpne hd hfb hl hfl (by omega)
    obtain ⟨s2, e1, e2, e3⟩ := arc_end k1 _ rfl (by omega) _ k2
    refine ⟨by rw [hdrL_length hm]; omega, hdrL_range hm, s2, _, at_, e1, rfl, rfl, rfl, e2⟩
  | false =>
    obtain ⟨h1, _⟩ | ⟨_, hchk, hpf, hbs⟩ := hbs
    · exact absurd h1 (by simp)
    simp only [Bool.false_eq_true, if_false] at hm hbs
    have hr0 : (if false = true then ([] : List KV) else [(pathK, p)]) = [(pathK, p)] := rfl
    rw [hr0] at hchk hpf
    have hc : chkOf pathK p = 0 := by
      unfold chkL at hchk
      split at hchk
      · assumption
      · assumption
    have hen : encL [(pathK, p)] = (recT pathK p).data.toList := by simp [encL]
    rw [hen] at hpf hbs
    obtain ⟨n, hn⟩ : ∃ n, (recT pathK p).data.toList.length = n := ⟨_, rfl⟩
    rw [hn] at hpf hbs
    have hbl : (PEmit.intsOf (recT pathK p).data.toList).length = n := by unfold PEmit.intsOf; rw [List.length_map, hn]
    have hnb : 0 < n ∧ n ≤ 4200 := by
      obtain ⟨_, _, h3⟩ := chk_zero hc
      have hf := lenFacts (n := pathK.size + p.size + 3) (by omega)
      have h4 := recT_list pathK p (pathK.size + p.size + 3) rfl
      have h5 := congrArg List.length h4
      rw [hn] at h5
      have h6 := hf.len
      have h7 := hf.le
      have h8 := data_length pathK
      have h9 := data_length p
      simp only [List.length_append, List.length_cons, List.length_nil] at h5
      omega
    have hfill : (List.replicate ((512 - n % 512) % 512) (0 : Int)).length = padOf n := by
      rw [List.length_replicate]
      unfold padOf
      omega
    have hpb : 0 ≤ padOf n ∧ padOf n ≤ 511 := by unfold padOf; omega
    obtain ⟨s0, j1, j2⟩ := fold_recs atHead0 (PEmit.paxH n) ⟨1, ⟨#[112, 97, 120]⟩, ⟨#[]⟩, ⟨#[]⟩, ⟨#[]⟩, ⟨#[]⟩, 120, 420, 0, 0, n, 0⟩ (hdrL_length hpf) (hdrL_range hpf) (hdrL_blank hpf (by omega)) (decV_hdrL hpf)
      (.inl (show clsOf 120 = 2 by decide)) (PEmit.intsOf (recT pathK p).data.toList) (List.replicate ((512 - n % 512) % 512) 0) [(pathK, p)] (by rw [hbl]) (by omega) (by omega) hfill (fun x hx => by
        obtain ⟨b, _, rfl⟩ := List.mem_map.1 hx
        have := b.toNat_lt
        omega) (fun x hx => by rw [List.eq_of_mem_replicate hx]; omega)
      (body_pax p hc) (by simp) (some arc0) (by omega)
    have hcls : clsOf (⟨1, ⟨#[112, 97, 120]⟩, ⟨#[]⟩, ⟨#[]⟩, ⟨#[]⟩, ⟨#[]⟩, 120, 420, 0, 0, n, 0⟩ : Hd).typ = 2 := by show clsOf 120 = 2; decide
    rw [hcls, if_neg (by decide), if_neg (by decide)] at j1
    obtain ⟨s1, at_, k1, k2⟩ := file_tail j1 ⟨#[108, 111, 110, 103]⟩ ⟨#[]⟩ p data fill hm (.inr rfl) hpne hd hfb hl hfl (by omega)
    have hall : foldB j0 (bs ++ (data ++ fill)) = (s1, some { arc0 with things := [⟨filEn p data.length, data, true, at_⟩] }) := by
      have e : bs ++ (data ++ fill) = (PEmit.paxH n ++ (PEmit.intsOf (recT pathK p).data.toList ++ List.replicate ((512 - n % 512) % 512) 0)) ++ (hdrL ⟨#[108, 111, 110, 103]⟩ ⟨#[]⟩ ⟨#[]⟩ ⟨#[]⟩ ⟨#[]⟩ 48 420 0 0 data.length 0 ++ (data ++ fill)) := by
        rw [hbs]
        simp only [List.append_assoc]
      rw [e, foldB_append]
      have j3 : foldB j0 (PEmit.paxH n ++ (PEmit.intsOf (recT pathK p).data.toList ++ List.replicate ((512 - n % 512) % 512) 0)) = (s0, some arc0) := j2
      rw [j3, k2]
    obtain ⟨s2, e1, e2, e3⟩ := arc_end k1 _ rfl (by omega) _ hall
    refine ⟨?_, ?_, s2, _, at_, e1, rfl, rfl, rfl, e2⟩
    · rw [hbs]
      simp only [List.length_append]
      have h1 : (PEmit.paxH n).length = 512 := hdrL_length hpf
      have h2 := hdrL_length hm
      omega
    · rw [hbs]
      intro x hx
      rcases List.mem_append.1 hx with h | h
      · rcases List.mem_append.1 h with h | h
        · rcases List.mem_append.1 h with h | h
          · exact hdrL_range hpf x h
          · obtain ⟨b, _, rfl⟩ := List.mem_map.1 h
            have := b.toNat_lt
            omega
        · rw [List.eq_of_mem_replicate h]; omega
      · exact hdrL_range hm x h
end Go.Proofs.YtpbpfngichfgeaaGreatDoor

namespace Go.Proofs.YtpbpfngichfgeaaGreatDoor
set_option linter.unusedVariables false
set_option linter.unusedSimpArgs false
open Go

def whN (ts : List Thg) : Nat := (ts.filter fun t => t.whole).length
def phiA (a : Arc) : Nat := a.things.length + whN a.things + (if a.done = true then 1 else 0)
theorem whN_append (l m : List Thg) : whN (l ++ m) = whN l + whN m := by simp [whN]
theorem whN_last (f : Thg → Thg) (l : List Thg) : whN (onLast f l) ≤ whN l + 1 := by
  rcases List.eq_nil_or_concat l with rfl | ⟨m, t, rfl⟩
  · exact Nat.zero_le _
  · rw [List.concat_eq_append, onLast_add, whN_append, whN_append]
    have : whN [f t] ≤ 1 := by unfold whN; exact Nat.le_trans (List.length_filter_le _ _) (by simp)
    omega
theorem whN_same (f : Thg → Thg) (hf : ∀ t, (f t).whole = t.whole) (l : List Thg) : whN (onLast f l) = whN l := by
  rcases List.eq_nil_or_concat l with rfl | ⟨m, t, rfl⟩
  · rfl
  · rw [List.concat_eq_append, onLast_add, whN_append, whN_append]
    congr 1
    cases ht : t.whole with
    | true => simp [whN, hf, ht]
    | false => simp [whN, hf, ht]
theorem ev_phi {a b : Arc} {x : Evt} (h : a.ev x = some b) : phiA b ≤ phiA a + 1 := by
  unfold Arc.ev at h
  split at h
  · cases h
  · obtain ⟨k, p⟩ := x
    cases k with
    | beg e =>
      simp only at h
      split at h
      · cases h
      · cases h
        show (a.things ++ [_]).length + whN (a.things ++ [_]) + (if a.done = true then 1 else 0) ≤ a.things.length + whN a.things + (if a.done = true then 1 else 0) + 1
        rw [whN_append, List.length_append]
        have : whN [(⟨e, [], false, p⟩ : Thg)] = 0 := rfl
        have h2 : [(⟨e, [], false, p⟩ : Thg)].length = 1 := rfl
        omega
    | dat d =>
      simp only at h
      split at h
      · cases h
      · cases h
        show (onLast (fun t : Thg => { t with data := t.data ++ d, at_ := p }) a.things).length + whN (onLast (fun t : Thg => { t with data := t.data ++ d, at_ := p }) a.things) + (if a.done = true then 1 else 0) ≤ a.things.length + whN a.things + (if a.done = true then 1 else 0) + 1
        rw [onLast_len, whN_same (fun t : Thg => { t with data := t.data ++ d, at_ := p }) (fun t => rfl)]
        exact Nat.le_succ _
    | fin =>
      simp only at h
      split at h
      · cases h
      · cases h
        show (onLast (fun t : Thg => { t with whole := true, at_ := p }) a.things).length + whN (onLast (fun t : Thg => { t with whole := true, at_ := p }) a.things) + (if a.done = true then 1 else 0) ≤ a.things.length + whN a.things + (if a.done = true then 1 else 0) + 1
        rw [onLast_len]
        have := whN_last (fun t : Thg => { t with whole := true, at_ := p }) a.things
        omega
    | don =>
      simp only at h
      cases h
      show a.things.length + whN a.things + (if true = true then 1 else 0) ≤ a.things.length + whN a.things + (if a.done = true then 1 else 0) + 1
      rw [if_pos rfl]
      exact Nat.add_le_add_right (Nat.le_add_right _ _) 1
    | bad c q =>
      simp only at h
      cases h
      show a.things.length + whN a.things + (if a.done = true then 1 else 0) ≤ a.things.length + whN a.things + (if a.done = true then 1 else 0) + 1
      exact Nat.le_succ _
theorem evs_phi : ∀ (l : List Evt) (a b : Arc), Arc.evs (some a) l = some b → phiA b ≤ phiA a + l.length
  | [], a, b, h => by
    have : some a = some b := h
    cases this
    exact Nat.le_refl _
  | x :: l, a, b, h => by
    have h2 : Arc.evs (a.ev x) l = some b := h
    cases hc : a.ev x with
    | none => rw [hc, evs_none] at h2; cases h2
    | some c =>
      rw [hc] at h2
      have h3 := evs_phi l c b h2
      have h4 := ev_phi hc
      simp only [List.length_cons]
      omega
/-- All bytes of all things. -/
def allD (ts : List Thg) : List Int := (ts.map fun t => t.data).flatten
theorem allD_append (l m : List Thg) : allD (l ++ m) = allD l ++ allD m := by simp [allD]
theorem allD_one (t : Thg) : allD [t] = t.data := by simp [allD]
end Go.Proofs.YtpbpfngichfgeaaGreatDoor
