/-
  What the text of AskData asks of the texts of package ask (contracts that are proved in PAskx1 and PAskx3).
-/
import Derived.Test.YtbkhhmgpfjemcaaDoorPAskx3
namespace Go.Proofs.YtbkhhmgpfjemcaaDoor.PAskD
set_option linter.unusedVariables false
open Go.RowKit Go.Proofs.YtbkhhmgpfjemcaaDoor Go.Proofs.YtbkhhmgpfjemcaaDoorW.PrintWords Go.Proofs.YtbkhhmgpfjemcaaDoorW.PrintLast Go.Proofs.YtbkhhmgpfjemcaaDoorW.PrintMore

theorem v_string_d {P : Program} {w : World} {base e' : Nat} {ok : Nat → Prop} {src dst e : TypeId} {v : Value} {xs : List Int} (hs : P.underlying src = some (.slice e)) (he : P.underlying e = some (.int .u8)) (hd : P.underlying dst = some .string)
    (h : Kd.V (Kd.int .u8) e' w base ok v xs) (n : Nat) : (convert src dst v).run P (w.drewN n) = .ok (.string (strOfNums xs)) (w.drewN n) := PAsk.v_string_d hs he hd h n
theorem r_string_d {P : Program} {w : World} {base e' : Nat} {ok : Nat → Prop} {src dst e : TypeId} {v : Value} {xs : List Int} (hs : P.underlying src = some (.slice e)) (he : P.underlying e = some (.int .u8)) (hd : P.underlying dst = some .string)
    (h : Kd.R (Kd.int .u8) e' w base ok v xs) (n : Nat) : (convert src dst v).run P (w.drewN n) = .ok (.string (strOfNums xs)) (w.drewN n) := PAsk.r_string_d hs he hd h n
theorem info5 : (Tryd.prog.info? 5).map (fun i => (i.zero, i.size, i.bytes)) = some (some (.int .u8 0), 1, 1) := PAsk.info5
/-! ### a text as a row of its own, one byte of it changed, and read back -/
def numsS (s : ByteArray) : List Int := s.data.toList.map fun b => (b.toNat : Int)
def setS (s : ByteArray) (i v : Int) : ByteArray := strOfNums ((numsS s).set i.toNat v)
theorem jt_lt {s : ByteArray} {i : Int} (h0 : 0 ≤ i) (h1 : i < (s.size : Int)) : i.toNat < s.size := by omega
theorem numsS_len (s : ByteArray) : (numsS s).length = s.size := by unfold numsS; rw [List.length_map, Array.length_toList]; rfl
theorem conv_event {ops : Array Oper} {rest : List Oper} {o : Oper} {a : Act} {Q : Exit → Act → World → Prop} {W : World} (hgd : o.guard = none) (s : ByteArray) (x : Operand) (ho : o.op = .convert 9 23 x) (hx : a.eval x = .string s)
    (h : ∀ g c w1, g = W.heap.size → (∀ j, j < s.size → w1.cell? ⟨g, j, none⟩ = some (.int .u8 ((numsS s).getD j 0))) → (∀ j, j < s.size → w1.frozen? ⟨g, j, none⟩ = false) → Below W.heap.size W w1 → wpList Tryd.prog ops Q rest (a.put o.dst (.slice (some ⟨g, 0, none⟩) s.size c)) w1) :
    wpList Tryd.prog ops Q (o :: rest) a W := by
  have hr := Lib.run_convert_string_bytes W 9 23 5 s Tryd.underlying9 Tryd.underlying23 Tryd.underlying5
  have hx0 : (execOp a.eval o).run Tryd.prog W = .ok (.value (.slice (some ⟨W.heap.size, 0, none⟩) s.size (grownCap W s.size 0 5))) (Lib.bytesWorld W 5 s) := by
    simp [execOp, ho, hx, hr]
  refine Kd.event_run hgd hx0 (h _ _ _ rfl (fun j hj => ?_) (fun j hj => ?_) ?_)
  · rw [Lib.bytesWorld_cell W 5 s j hj]
    have e : ((s.data.toList.getD j 0).toNat : Int) = (numsS s).getD j 0 := by
      have hl : j < s.data.toList.length := by rw [Array.length_toList]; exact hj
      rw [List.getD_eq_getElem?_getD, List.getD_eq_getElem?_getD, numsS, List.getElem?_map, List.getElem?_eq_getElem hl]
      rfl
    rw [e]
  · have hs : (Lib.bytesCells W 5 s).size ≥ s.size := by rw [Lib.bytesCells, Array.size_append, Array.size_map]; show s.data.size + _ ≥ s.data.size; omega
    unfold World.frozen?
    simp only
    rw [Lib.bytesWorld_at_new]
    simp
    omega
  · unfold Lib.bytesWorld
    refine Lib.below_freeze (p := ⟨W.heap.size, _, none⟩) ?_ (Nat.le_refl _) 1
    exact (Below.refl W.heap.size W).drew.alloc (Nat.le_refl _) _
theorem set_C {w1 : World} {g : Nat} {s : ByteArray} (hcell : ∀ j, j < s.size → w1.cell? ⟨g, j, none⟩ = some (.int .u8 ((numsS s).getD j 0))) {i : Int} (h0 : 0 ≤ i) (h1 : i < (s.size : Int)) (v : Int) (hs : s.size ≤ 9223372036854775807) :
    Kd.C (Kd.int .u8) (w1.setCell ⟨g, i.toNat, none⟩ (.int .u8 v)) (some ⟨g, 0, none⟩) s.size ((numsS s).set i.toNat v) := by
  refine ⟨by rw [List.length_set, numsS_len], hs, fun _ => ⟨_, rfl, ?_⟩⟩
  intro j p hp
  refine ⟨[.int .u8 p], rfl, rfl, ?_⟩
  intro k u hu
  obtain ⟨hk, hu2⟩ := List.getElem?_eq_some_iff.1 hu
  have hk0 : k = 0 := by simpa using hk
  subst hk0
  have hu3 : u = .int .u8 p := by simpa using hu2.symm
  subst hu3
  have ea : (Addr.add ⟨g, 0, none⟩ (j * (Kd.int .u8).sz + 0)) = ⟨g, j, none⟩ := by
    show (Addr.add ⟨g, 0, none⟩ (j * 1 + 0)) = ⟨g, j, none⟩
    unfold Addr.add
    split
    · have : j = 0 := by omega
      subst this; rfl
    · simp
  rw [ea]
  obtain ⟨hj, hp2⟩ := List.getElem?_eq_some_iff.1 hp
  have hj2 : j < s.size := by rw [List.length_set, numsS_len] at hj; exact hj
  by_cases hji : i.toNat = j
  · subst hji
    rw [World.cell?_setCell_same w1 _ _ (hcell _ hj2)]
    rw [List.getElem_set] at hp2
    simp at hp2
    rw [hp2]
  · rw [World.cell?_setCell_other w1 _ _ _ (by intro e; apply hji; injection e), hcell j hj2]
    rw [List.getElem_set, if_neg hji] at hp2
    rw [List.getD_eq_getElem?_getD, List.getElem?_eq_getElem (by rw [numsS_len]; exact hj2)]
    simp [hp2]
theorem conv_back {w1 : World} {g : Nat} {s : ByteArray} (hcell : ∀ j, j < s.size → w1.cell? ⟨g, j, none⟩ = some (.int .u8 ((numsS s).getD j 0))) {i : Int} (h0 : 0 ≤ i) (h1 : i < (s.size : Int)) (v : Int) (c : Nat) (hs : s.size ≤ 9223372036854775807) :
    (convert 23 9 (.slice (some ⟨g, 0, none⟩) s.size c)).run Tryd.prog (w1.setCell ⟨g, i.toNat, none⟩ (.int .u8 v)) = .ok (.string (setS s i v)) (w1.setCell ⟨g, i.toNat, none⟩ (.int .u8 v)) := by
  have h := set_C hcell h0 h1 v hs
  have hl : ((numsS s).set i.toNat v).length = s.size := by rw [List.length_set, numsS_len]
  exact Kd.C_string (P := Tryd.prog) Tryd.underlying23 Tryd.underlying5 Tryd.underlying9 h
theorem conv_back_d {w1 : World} {g : Nat} {s : ByteArray} (hcell : ∀ j, j < s.size → w1.cell? ⟨g, j, none⟩ = some (.int .u8 ((numsS s).getD j 0))) {i : Int} (h0 : 0 ≤ i) (h1 : i < (s.size : Int)) (v : Int) (c : Nat) (hs : s.size ≤ 9223372036854775807) (n : Nat) :
    (convert 23 9 (.slice (some ⟨g, 0, none⟩) s.size c)).run Tryd.prog ((w1.setCell ⟨g, i.toNat, none⟩ (.int .u8 v)).drewN n) = .ok (.string (setS s i v)) ((w1.setCell ⟨g, i.toNat, none⟩ (.int .u8 v)).drewN n) := by
  have h := Kd.C_drewN (set_C hcell h0 h1 v hs) n
  exact Kd.C_string (P := Tryd.prog) Tryd.underlying23 Tryd.underlying5 Tryd.underlying9 h
def ask_Decode.f (a0 : ByteArray) : Option (Int × Int × Int × Int × ByteArray × List Int × Int) := PAsk.ask_Decode.f 100 a0
theorem ask_Decode.calls (a0 : ByteArray) (r1 : Int) (r2 : Int) (r3 : Int) (r4 : Int) (r5 : ByteArray) (r6 : List Int) (r7 : Int) (w : World) (hE_ : EnvE w) (h : ask_Decode.f a0 = some (r1, r2, r3, r4, r5, r6, r7)) :
    Calls Tryd.prog 10 #[.string a0] w fun e w' => ∃ v5_ : Value, e = .returned (.tuple #[.agg #[.int .i64 r1, .int .i64 r2, .int .i64 r3, .int .i64 r4, .string r5, v5_], .int .i64 r7]) ∧ Kd.R (Kd.int .u8) 5 w' w.heap.size (fun _ => True) v5_ r6 ∧ Below w.heap.size w w' :=
  PAsk.ask_Decode.calls 100 a0 r1 r2 r3 r4 r5 r6 r7 w hE_ h
def pannierlaw20_asks.f : Option Bool := PAsk.pannierlaw20_asks.f 100
theorem pannierlaw20_asks.calls (r : Bool) (w : World) (hE_ : EnvE w) (h : pannierlaw20_asks.f = some r) :
    Calls Tryd.prog 9 #[] w fun e w' => e = .returned (.bool r) ∧ Below w.heap.size w w' :=
  PAsk.pannierlaw20_asks.calls 100 r w hE_ h
def ask_Encode.f (a0 a1 a2 a3 : Int) (a4 : ByteArray) (l5 : List Int) : Option ByteArray := (PAsk.ask_Encode.f 5000 a0 a1 a2 a3 a4 l5).bind fun t => if t.size ≤ 30000 then some t else none
theorem encode_size {a0 a1 a2 a3 : Int} {a4 : ByteArray} {l5 : List Int} {t : ByteArray} (h : ask_Encode.f a0 a1 a2 a3 a4 l5 = some t) : t.size ≤ 30000 := by
  obtain ⟨t2, _, h⟩ := Option.bind_eq_some_iff.1 h
  split at h
  · rename_i hs
    have := Option.some.inj h
    subst this
    exact hs
  · cases h
theorem encode_eq {a0 a1 a2 a3 : Int} {a4 : ByteArray} {l5 : List Int} {t : ByteArray} (h : ask_Encode.f a0 a1 a2 a3 a4 l5 = some t) : PAsk.ask_Encode.f 5000 a0 a1 a2 a3 a4 l5 = some t := by
  obtain ⟨t2, h2, h⟩ := Option.bind_eq_some_iff.1 h
  split at h
  · have := Option.some.inj h
    subst this
    exact h2
  · cases h
theorem ask_Encode.calls (a0_0 : Int) (a0_1 : Int) (a0_2 : Int) (a0_3 : Int) (a0_4 : ByteArray) (A0_5 : Option Addr) (c0_5 : Nat) (l0_5 : List Int) (r : ByteArray) (w : World) (hr0_5 : Kd.C (Kd.int .u8) w A0_5 l0_5.length l0_5) (hc0_5 : l0_5.length ≤ c0_5) (hE_ : EnvE w) (h : ask_Encode.f a0_0 a0_1 a0_2 a0_3 a0_4 l0_5 = some r) :
    Calls Tryd.prog 13 #[.agg #[.int .i64 a0_0, .int .i64 a0_1, .int .i64 a0_2, .int .i64 a0_3, .string a0_4, .slice A0_5 l0_5.length c0_5]] w fun e w' => e = .returned (.string r) ∧ Below w.heap.size w w' :=
  PAsk.ask_Encode.calls 5000 a0_0 a0_1 a0_2 a0_3 a0_4 A0_5 c0_5 l0_5 r w hr0_5 hc0_5 hE_ (encode_eq h)
end Go.Proofs.YtbkhhmgpfjemcaaDoor.PAskD
