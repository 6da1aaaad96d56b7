/-
  Several texts in one: YtpbpfngichfgeaaGreatDoorWsP, YtpbpfngichfgeaaGreatDoorWsI.
-/
import Derived.Test.YtpbpfngichfgeaaGreatDoorFedA
import Derived.Test.YtpbpfngichfgeaaGreatDoorFedR
namespace Go.Proofs.YtpbpfngichfgeaaGreatDoor
set_option linter.unusedVariables false
set_option linter.unusedSimpArgs false
open Go Go.RowKit Go.Proofs.YtpbpfngichfgeaaGreatDoorW.PrintWords Go.Proofs.YtpbpfngichfgeaaGreatDoorW.PrintLast Go.Proofs.YtpbpfngichfgeaaGreatDoorW.PrintMore

/-- One file, as it is written. -/
def wsOne (f : ByteArray × List Int) : List Int := hdrL f.1 ⟨#[]⟩ ⟨#[]⟩ ⟨#[]⟩ ⟨#[]⟩ 48 420 0 0 f.2.length 0 ++ (f.2 ++ List.replicate (padOf f.2.length).toNat 0)
def wsL : List (ByteArray × List Int) → List Int
  | [] => []
  | f :: l => wsOne f ++ wsL l
theorem wsL_append : ∀ l m, wsL (l ++ m) = wsL l ++ wsL m
  | [], m => rfl
  | f :: l, m => by
    show wsOne f ++ wsL (l ++ m) = (wsOne f ++ wsL l) ++ wsL m
    rw [wsL_append l m, List.append_assoc]
def wsEn (f : ByteArray × List Int) : En := ⟨f.1, ⟨#[]⟩, 1, bits .and .i64 420 4095, 0, 0, 0, f.2.length, ⟨#[]⟩, ⟨#[]⟩⟩
/-- The things, but for how many bytes were read at each. -/
structure WsT (t : Thg) (f : ByteArray × List Int) : Prop where
  en : t.en = wsEn f
  data : t.data = f.2
structure WsOk (f : ByteArray × List Int) : Prop where
  fit : HdrFits f.1 ⟨#[]⟩ ⟨#[]⟩ ⟨#[]⟩ ⟨#[]⟩ 48 420 0 0 (f.2.length : Int) 0
  rng : ∀ x ∈ f.2, 0 ≤ x ∧ x < 256
  len : f.2.length ≤ 1500
def WsTs (ts : List Thg) (l : List (ByteArray × List Int)) : Prop := ts.length = l.length ∧ ∀ (i : Nat) (t : Thg) (f : ByteArray × List Int), ts[i]? = some t → l[i]? = some f → WsT t f
theorem WsTs.nil : WsTs [] [] := ⟨rfl, fun i t f h _ => by rw [List.getElem?_nil] at h; cases h⟩
theorem WsTs.snoc {ts : List Thg} {l : List (ByteArray × List Int)} {t : Thg} {f : ByteArray × List Int} (h : WsTs ts l) (ht : WsT t f) : WsTs (ts ++ [t]) (l ++ [f]) := by
  refine ⟨by simp [h.1], fun i u g h1 h2 => ?_⟩
  by_cases hi : i < ts.length
  · rw [List.getElem?_append_left hi] at h1
    rw [List.getElem?_append_left (by rw [← h.1]; exact hi)] at h2
    exact h.2 i u g h1 h2
  · rw [List.getElem?_append_right (by omega)] at h1
    rw [List.getElem?_append_right (by rw [← h.1]; omega)] at h2
    rw [← h.1] at h2
    have hz : i - ts.length = 0 := by
      rcases Nat.eq_zero_or_pos (i - ts.length) with h | h
      · exact h
      · rw [List.getElem?_eq_none (by simp; omega)] at h1; cases h1
    rw [hz] at h1 h2
    simp at h1 h2
    subst h1
    subst h2
    exact ht
theorem wsOne_len {f : ByteArray × List Int} (h : WsOk f) : (wsOne f).length = 512 + f.2.length + (padOf f.2.length).toNat ∧ (wsOne f).length ≤ 2524 := by
  have hl := hdrL_length h.fit
  have hp : 0 ≤ padOf f.2.length ∧ padOf f.2.length ≤ 511 := by unfold padOf; omega
  have hn := h.len
  unfold wsOne
  rw [List.length_append, List.length_append, hl, List.length_replicate]
  omega
theorem wsOne_rng {f : ByteArray × List Int} (h : WsOk f) : ∀ x ∈ wsOne f, 0 ≤ x ∧ x < 256 := by
  intro x hx
  unfold wsOne at hx
  rcases List.mem_append.1 hx with h1 | h1
  · exact hdrL_range h.fit x h1
  · rcases List.mem_append.1 h1 with h2 | h2
    · exact h.rng x h2
    · rw [List.eq_of_mem_replicate h2]; omega
theorem wsL_rng : ∀ (l : List (ByteArray × List Int)), (∀ f ∈ l, WsOk f) → ∀ x ∈ wsL l, 0 ≤ x ∧ x < 256
  | [], _, x, hx => by cases hx
  | f :: l, h, x, hx => by
    have hx2 : x ∈ wsOne f ++ wsL l := hx
    rcases List.mem_append.1 hx2 with h1 | h1
    · exact wsOne_rng (h f (by simp)) x h1
    · exact wsL_rng l (fun g hg => h g (by simp [hg])) x h1
theorem wsL_len : ∀ (l : List (ByteArray × List Int)), (∀ f ∈ l, WsOk f) → (wsL l).length ≤ 2524 * l.length
  | [], _ => Nat.le_refl _
  | f :: l, h => by
    have h1 := (wsOne_len (h f (by simp))).2
    have h2 := wsL_len l (fun g hg => h g (by simp [hg]))
    show (wsOne f ++ wsL l).length ≤ _
    rw [List.length_append, List.length_cons]
    omega
theorem ws_fold : ∀ (l : List (ByteArray × List Int)) (s : PSt) (p : Int) (a : Arc) (k : List (ByteArray × List Int)), AtHead s p [] [] ⟨#[]⟩ ⟨#[]⟩ → (∀ f ∈ l, WsOk f) → a.over = false → a.opn = false → WsTs a.things k → p + (wsL l).length + 2000 ≤ 1099511627776 →
    ∃ s' b, AtHead s' (p + (wsL l).length) [] [] ⟨#[]⟩ ⟨#[]⟩ ∧ foldB (s, some a) (wsL l) = (s', some b) ∧ b.over = false ∧ b.opn = false ∧ WsTs b.things (k ++ l)
  | [], s, p, a, k, H, _, ho, hp, ht, _ => ⟨s, a, by simpa [wsL] using H, rfl, ho, hp, by simpa using ht⟩
  | f :: l, s, p, a, k, H, hw, ho, hp, ht, hb => by
    have hf := hw f (by simp)
    have hl1 := wsOne_len hf
    have hlen : (wsL (f :: l)).length = (wsOne f).length + (wsL l).length := by
      show (wsOne f ++ wsL l).length = _
      rw [List.length_append]
    have hpd : 0 ≤ padOf f.2.length ∧ padOf f.2.length ≤ 511 := by unfold padOf; omega
    obtain ⟨s1, h1, h2⟩ := fold_file H (mode := 420) f.2 (List.replicate (padOf f.2.length).toNat 0) hf.fit hf.rng (fun x hx => by rw [List.eq_of_mem_replicate hx]; omega) (by rw [List.length_replicate]; omega) a ho hp (by have := hf.len; omega)
    have e1 : p + 512 + (f.2.length : Int) + ((List.replicate (padOf f.2.length).toNat (0 : Int)).length : Int) = p + ((wsOne f).length : Int) := by
      rw [List.length_replicate, hl1.1]
      omega
    rw [e1] at h1
    obtain ⟨s2, b, j1, j2, j3, j4, j5⟩ := ws_fold l s1 (p + (wsOne f).length) { a with things := a.things ++ [⟨wsEn f, f.2, true, p + 512 + f.2.length⟩] } (k ++ [f]) h1 (fun g hg => hw g (by simp [hg])) ho hp (ht.snoc ⟨rfl, rfl⟩) (by omega)
    refine ⟨s2, b, ?_, ?_, j3, j4, by simpa using j5⟩
    · rw [hlen]
      have : p + (((wsOne f).length + (wsL l).length : Nat) : Int) = p + (wsOne f).length + (wsL l).length := by omega
      rw [this]
      exact j1
    · show foldB (s, some a) (wsOne f ++ wsL l) = _
      rw [foldB_append]
      have h3 : foldB (s, some a) (wsOne f) = (s1, some { a with things := a.things ++ [⟨wsEn f, f.2, true, p + 512 + f.2.length⟩] }) := h2
      rw [h3]
      exact j2
/-- The whole archive: all of it is read. -/
theorem ws_all (l : List (ByteArray × List Int)) (hw : ∀ f ∈ l, WsOk f) (hl : l.length ≤ 10) :
    ∃ s b, foldB j0 (wsL l ++ List.replicate 1024 0) = (s, some b) ∧ b.done = true ∧ b.over = true ∧ WsTs b.things l ∧ s.endE = none ∧ s.at_ = ((wsL l ++ List.replicate 1024 0).length : Int) := by
  have hlen := wsL_len l hw
  obtain ⟨s1, b1, h1, h2, h3, h4, h5⟩ := ws_fold l ps0 0 arc0 [] atHead0 hw rfl rfl WsTs.nil (by omega)
  obtain ⟨s2, k1, k2, k3⟩ := arc_end h1 b1 h3 (by omega) (wsL l) h2
  refine ⟨s2, _, k1, rfl, rfl, h5, k2, ?_⟩
  rw [k3, List.length_append, List.length_replicate]
  omega
/-- Behind the end of an archive no event comes. -/
theorem evs_over {a b : Arc} {l : List Evt} (h : Arc.evs (some a) l = some b) (ho : a.over = true) : b = a := by
  cases l with
  | nil => exact (Option.some.inj h).symm
  | cons x l =>
    have h2 : Arc.evs (a.ev x) l = some b := h
    have e : a.ev x = none := by unfold Arc.ev; rw [if_pos ho]
    rw [e, evs_none] at h2
    cases h2
theorem foldB_over2 : ∀ (xs : List Int) (s s' : PSt) (a b : Arc), foldB (s, some a) xs = (s', some b) → a.over = true → b = a
  | [], s, s', a, b, h, ho => by
    have : ((s, some a) : J) = (s', some b) := h
    cases this
    rfl
  | x :: xs, s, s', a, b, h, ho => by
    have h2 : foldB (byte1 (s, some a) x) xs = (s', some b) := h
    by_cases h4 : s.st = 4
    · have e : byte1 (s, some a) x = (s, some a) := if_pos h4
      rw [e] at h2
      exact foldB_over2 xs s s' a b h2 ho
    · have e : byte1 (s, some a) x = ({ (s.round [x]).1 with out := [] }, Arc.evs (some a) (s.round [x]).1.out) := if_neg h4
      rw [e] at h2
      cases hc : Arc.evs (some a) (s.round [x]).1.out with
      | none =>
        rw [hc] at h2
        have := fold_none xs { (s.round [x]).1 with out := [] }
        rw [h2] at this
        cases this
      | some c =>
        rw [hc] at h2
        obtain rfl := evs_over hc ho
        exact foldB_over2 xs _ s' c b h2 ho
/-- What an event within a Feed leads to at the end: the archive there is a beginning of the last one. -/
theorem ws_mid {xs : List Int} {r sF : PSt} {b b3 b' F : Arc} {out : List Evt} {j p q : Nat} (ho : Opn b) (hF : foldB j0 xs = (sF, some F)) (hp : foldB j0 (xs.take (p + q)) = (r, some b')) (h' : Arc.evs (some b) out = some b') (h3 : Arc.evs (some b) (out.take j) = some b3) :
    Ext b3 F ∧ Opn b3 ∧ (b3.over = true → F = b3) := by
  have e1 : Arc.evs (some b3) (out.drop j) = some b' := by
    rw [← h3, ← evs_append, List.take_append_drop]
    exact h'
  have e2 : foldB (r, some b') (xs.drop (p + q)) = (sF, some F) := by
    rw [← hp, ← foldB_append, List.take_append_drop]
    exact hF
  obtain ⟨x1, x2⟩ := evs_ext _ b b3 ho h3
  obtain ⟨y1, y2⟩ := evs_ext _ b3 b' x2 e1
  obtain ⟨z1, z2⟩ := foldB_ext _ r b' F sF y2 e2
  refine ⟨y1.trans z1, x2, fun hv => ?_⟩
  obtain rfl := evs_over e1 hv
  exact foldB_over2 _ r sF b' F e2 hv
end Go.Proofs.YtpbpfngichfgeaaGreatDoor

namespace Go.Proofs.YtpbpfngichfgeaaGreatDoor
set_option linter.unusedVariables false
set_option linter.unusedSectionVars false
set_option linter.unusedSimpArgs false
open Go Go.RowKit Go.Proofs.YtpbpfngichfgeaaGreatDoorW.PrintWords Go.Proofs.YtpbpfngichfgeaaGreatDoorW.PrintLast Go.Proofs.YtpbpfngichfgeaaGreatDoorW.PrintMore

structure WI (w0 w : World) (gp : Nat) (s : PSt) (vb vt vg vl : Value) : Prop where
  bl : Below w0.heap.size w0 w
  ps : PSx w (Own gp vb vt vg vl) w gp { s with out := [] } vb vt vg vl (.slice none 0 0)
  ow : ∀ k, Own gp vb vt vg vl k → w0.heap.size ≤ k
section
variable {w0 w w' : World} {gp : Nat} {s : PSt} {vb vt vg vl : Value}
theorem wi0 (w : World) : WI w (w.alloc (.cells newCells 77)) w.heap.size ps0 (.slice none 0 0) (.slice none 0 0) (.slice none 0 0) (.slice none 0 0) := by
  have hn : ∀ k, Own w.heap.size (.slice none 0 0) (.slice none 0 0) (.slice none 0 0) (.slice none 0 0) k → k = w.heap.size := by
    intro k hk
    rcases hk with h | h | h | h | h
    · exact h
    all_goals simp [Value.ownBlock] at h
  refine ⟨below_alloc (Below.refl _ _) _, ?_, fun k hk => by have := hn k hk; omega⟩
  exact PSx.move (s := ps0) (PSx.new w) (fun k hk => rfl)
theorem WI.below (h : WI w0 w gp s vb vt vg vl) (hb : Below w.heap.size w w') : WI w0 w' gp s vb vt vg vl := by
  refine ⟨below_next h.bl hb, ?_, h.ow⟩
  refine PSx.move (s := s) h.ps (fun k hk => ?_)
  obtain ⟨c, t, hc, ht⟩ := own_ty h.ps k hk
  exact hb.block k (blk_lt hc)
theorem WI.fed {r : PSt} {vb' vt' vg' vl' : Value} (h : WI w0 w gp s vb vt vg vl) (hp : PSx w (Own gp vb vt vg vl) w' gp { r with out := [] } vb' vt' vg' vl' (.slice none 0 0)) : WI w0 w' gp r vb' vt' vg' vl' :=
  ⟨⟨hp.fr.os.trans h.bl.os, hp.fr.tape.trans h.bl.tape, hp.fr.output.trans h.bl.output, Nat.le_trans h.bl.size hp.fr.size, fun k hk => (hp.fr.block k (Nat.lt_of_lt_of_le hk h.bl.size) (fun ho => by have := h.ow k ho; omega)).trans (h.bl.block k hk)⟩, PSx.again2 hp, own_ge hp h.ow h.bl.size⟩
theorem WI.clean (h : WI w0 w gp s vb vt vg vl) : WI w0 w gp { s with out := [] } vb vt vg vl := ⟨h.bl, h.ps, h.ow⟩
/-- A row of other types stays through a Feed. -/
theorem WI.row {α : Type} {d : Kd α} {e base : Nat} {ok : Nat → Prop} {v : Value} {xs : List α} (hr : d.R e w base ok v xs) (h : WI w0 w gp s vb vt vg vl) (hF : Frm (Own gp vb vt vg vl) w w')
    (ht : ∀ q, q ∈ e :: d.E → q ≠ 77 ∧ q ≠ 5 ∧ q ≠ 66) : d.R e w' base ok v xs := by
  refine Kd.R_mono (Kd.R_step (Kd.R_bound hr) (fun k hk hlt => hF.block k hlt (fun ho => ?_))) (fun _ hk => hk.1)
  obtain ⟨_, _, _, q, hq, c, hc⟩ := hk
  obtain ⟨c', t', hc', ht'⟩ := own_ty h.ps k ho
  have := ty_ne hc hc'
  subst this
  obtain ⟨h1, h2, h3⟩ := ht q hq
  rcases ht' with e | e | e
  · exact h1 e
  · exact h2 e
  · exact h3 e
/-- What a Feed of the next piece does. -/
theorem piece_ws {b : Arc} (he : EnvE w0) (hf : WI w0 w gp s vb vt vg vl) (A : Option Addr) (c n : Nat) (xs : List Int) (hx : Kd.C (Kd.int .u8) w0 A n xs) (hn : xs.length = n) (hc : n ≤ c) (hb : ∀ x ∈ xs, 0 ≤ x ∧ x < 256) (hl : n ≤ 100000)
    (p q : Nat) (hpq : p + q ≤ n) (hj : foldB j0 (xs.take p) = (s, some b)) :
    ∃ (A' : Option Addr) (c' : Nat) (r : PSt) (b' : Arc), (∀ W : World, (Instr.slice 32 (.slice A n c) (some (.int .i64 (p : Int))) (some (.int .i64 ((p : Int) + (q : Int)))) none).run Tryz.prog W = .ok (.slice A' q c') W) ∧
      Calls Tryz.prog 17 #[.pointer (some ⟨gp, 0, none⟩), .slice A' q c'] w (Fed w (Own gp vb vt vg vl) gp r) ∧
      foldB j0 (xs.take (p + q)) = ({ r with out := [] }, some b') ∧ Arc.evs (some b) r.out = some b' := by
  obtain ⟨i0, hi, hz0, hz1, hz2⟩ := info_parts infoU8
  obtain ⟨s1, b1, f1, f2, f3, f4, f5, f6⟩ := fold0 (xs.take p) (fun x hx => hb x (List.mem_of_mem_take hx)) (by rw [List.length_take]; omega)
  rw [hj] at f1
  obtain ⟨rfl, rfl⟩ : s = s1 ∧ b = b1 := by
    have h1 := congrArg Prod.fst f1
    have h2 := congrArg Prod.snd f1
    exact ⟨h1, Option.some.inj h2⟩
  rw [List.length_take] at f5
  obtain ⟨A', h1, h2, h3⟩ := print_mid_int (P := Tryz.prog) (k := .u8) 32 5 Tryz.underlying32 hi hz1 A c xs (p : Int) ((p : Int) + (q : Int)) (by omega) (by omega) (by omega) (by omega)
  have e1 : ((p : Int) + (q : Int)).toNat = p + q := by omega
  have e2 : ((p : Nat) : Int).toNat = p := by omega
  rw [e1, e2] at h1 h2 h3
  have hlen : ((xs.take (p + q)).drop p).length = q := by rw [List.length_drop, List.length_take]; omega
  obtain ⟨ys, hys⟩ : ∃ ys, (xs.take (p + q)).drop p = ys := ⟨_, rfl⟩
  have hyb : ∀ x ∈ ys, 0 ≤ x ∧ x < 256 := fun x hx => hb x (by rw [← hys] at hx; exact List.mem_of_mem_take (List.mem_of_mem_drop hx))
  rw [hys] at h1 h2 h3 hlen
  have hsplit : xs.take (p + q) = xs.take p ++ ys := by
    have e := List.take_append_drop p (xs.take (p + q))
    rw [hys, List.take_take, Nat.min_eq_left (Nat.le_add_right p q)] at e
    exact e.symm
  obtain ⟨s2, b2, k1, k2, k3, k4, k5, k6⟩ := fold0 (xs.take (p + q)) (fun x hx => hb x (List.mem_of_mem_take hx)) (by rw [List.length_take]; omega)
  have hat : s.at_ + ys.length ≤ 1099511627776 := by omega
  have hj2 : foldB j0 (xs.take (p + q)) = ({ s.feed ys with out := [] }, Arc.evs (some b) (s.feed ys).out) := by
    rw [hsplit, foldB_append, hj]
    exact (feed_fold s ys (some b) f2 hyb hat).symm
  have he2 : Arc.evs (some b) (s.feed ys).out = some b2 := by
    rw [hj2] at k1
    exact congrArg Prod.snd k1
  refine ⟨A', c - p, s.feed ys, b2, fun W => ?_, ?_, by rw [hj2, he2], he2⟩
  · have := h1 W
    rw [hn, hlen] at this
    exact this
  · have hI : In w (Own gp vb vt vg vl) A' ys := fun W hW => Kd.C_of_reads (h1 := fun _ => rfl) (h2 W (Kd.reads_of_C (by rw [hn]; exact Kd.C_below hx (frm_below hf.bl hW hf.ow))))
    have := feed_next w (he.below hf.bl) gp s vb vt vg vl hf.ps (fun k hk => Nat.le_trans (ng_of_env he) (hf.ow k hk)) (by rw [f2.clean]; exact f2.wf) (by rw [f2.clean]; exact f2.wm) A' (c - p) ys hI h3 hyb (by omega) hat
    rw [hlen, f2.clean] at this
    exact this
end
/-- What is known of the bytes that came of the last thing. -/
def gotOf (ts : List Thg) : ByteArray := match ts.getLast? with
  | none => ⟨#[]⟩
  | some t => strOfNums t.data
theorem gotOf_add (l : List Thg) (t : Thg) : gotOf (l ++ [t]) = strOfNums t.data := by simp [gotOf]
/-- An element of a row of single cells that came in. -/
theorem C_at1 {α : Type} {enc : α → Value} {h1 : ∀ x, (enc x).oneCell' = true} {w : World} {A : Option Addr} {n : Nat} {xs : List α} (h : (Kd.scalar enc h1).C w A n xs) (i : Nat) (x : α) (hx : xs[i]? = some x) : ∃ ad, A = some ad ∧ w.cell? (ad.add i) = some (enc x) := by
  have hi : i < xs.length := (List.getElem?_eq_some_iff.1 hx).1
  obtain ⟨ad, he, hc⟩ := h.2.2 (by rw [h.1] at hi; omega)
  obtain ⟨c, hcl, hk, hcell⟩ := hc i x hx
  obtain rfl : c = [enc x] := hk
  refine ⟨ad, he, ?_⟩
  have := hcell 0 (enc x) rfl
  simpa [Kd.scalar] using this
/-- A row in a row that came in. -/
theorem C_atS {α : Type} {e : Nat} {d : Kd α} {w : World} {A : Option Addr} {n : Nat} {xs : List (List α)} (h : (Kd.slice e d).C w A n xs) (i : Nat) (x : List α) (hx : xs[i]? = some x) : ∃ ad Ai ci, A = some ad ∧ w.cell? (ad.add i) = some (.slice Ai x.length ci) ∧ x.length ≤ ci ∧ d.C w Ai x.length x := by
  have hi : i < xs.length := (List.getElem?_eq_some_iff.1 hx).1
  obtain ⟨ad, he, hc⟩ := h.2.2 (by rw [h.1] at hi; omega)
  obtain ⟨c, hcl, ⟨Ai, ci, hcc, hle, hC⟩, hcell⟩ := hc i x hx
  subst hcc
  refine ⟨ad, Ai, ci, he, ?_, hle, hC⟩
  have := hcell 0 _ rfl
  simpa [Kd.slice] using this
/-- A thing of the archive so far is one that was written. -/
theorem ws_thing {b3 F : Arc} {names : List ByteArray} {datas : List (List Int)} {l : List Thg} {t : Thg} (he : Ext b3 F) (hF : WsTs F.things (names.zip datas)) (hb : b3.things = l ++ [t]) :
    ∃ nm d, names[l.length]? = some nm ∧ datas[l.length]? = some d ∧ t.en = wsEn (nm, d) ∧ t.data <+: d ∧ (t.whole = true → t.data = d) ∧ l.length + 1 ≤ (names.zip datas).length := by
  have hlen : l.length + 1 ≤ F.things.length := by
    have := he.len
    rw [hb] at this
    simpa using this
  have h1 : b3.things[l.length]? = some t := by rw [hb]; simp
  have h2 : F.things[l.length]? = some (F.things[l.length]'(by omega)) := List.getElem?_eq_getElem _
  obtain ⟨q1, q2, q3⟩ := he.at_ _ _ _ h1 h2
  have hzl : l.length < (names.zip datas).length := by rw [← hF.1]; omega
  have h3 : (names.zip datas)[l.length]? = some ((names.zip datas)[l.length]'hzl) := List.getElem?_eq_getElem _
  have hw := hF.2 _ _ _ h2 h3
  obtain ⟨⟨nm, d⟩, hf⟩ : ∃ f, (names.zip datas)[l.length]'hzl = f := ⟨_, rfl⟩
  rw [hf] at hw h3
  have h4 := List.getElem?_zip_eq_some.1 h3
  refine ⟨nm, d, h4.1, h4.2, q1.trans hw.en, ?_, fun hh => ?_, by omega⟩
  · have := hw.data
    rw [this] at q2
    exact q2
  · have := q3 hh
    rw [this]
    exact hw.data
end Go.Proofs.YtpbpfngichfgeaaGreatDoor
