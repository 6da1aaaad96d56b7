/-
  (ask.form).read, walked: what it reads, as a function; its end; the choice of numbers.
-/
import Derived.Test.YtbkhhmgpfjemcaaDoorAskRead0
namespace Go.Proofs.YtbkhhmgpfjemcaaDoor
set_option linter.unusedVariables false
set_option linter.unusedSimpArgs false
open Go.RowKit Go.Sort

def nextOf (s : ByteArray) : ByteArray × ByteArray := (⟨(Lib.cut s.data.toList [32]).1.toArray⟩, ⟨(Lib.cut s.data.toList [32]).2.1.toArray⟩)
def stepN (b : Bool) (s : ByteArray) : Int × Int × ByteArray := if b = true then ((askNum (nextOf s).1).1, (askNum (nextOf s).1).2, (nextOf s).2) else (0, 0, s)
def readOf (k : Int) (b0 b1 b2 bd bp : Bool) (s : ByteArray) : Option (Int × Int × Int × Int × ByteArray × List Int × Int) :=
  let x := stepN b0 s
  if x.2.1 ≠ 0 then some (0, 0, 0, 0, ⟨#[]⟩, [], x.2.1) else
  let y := stepN b1 x.2.2
  if y.2.1 ≠ 0 then some (0, 0, 0, 0, ⟨#[]⟩, [], y.2.1) else
  let z := stepN b2 y.2.2
  if z.2.1 ≠ 0 then some (0, 0, 0, 0, ⟨#[]⟩, [], z.2.1) else
  if bp = true then some (k, x.1, y.1, z.1, z.2.2, [], 0) else
  if bd = true then (PAskA.ask_data.f 20000 z.2.2).bind fun d => if d.2 ≠ 0 then some (0, 0, 0, 0, ⟨#[]⟩, [], d.2) else some (k, x.1, y.1, z.1, ⟨#[]⟩, d.1, 0)
  else if z.2.2 ≠ ⟨#[]⟩ then some (0, 0, 0, 0, ⟨#[]⟩, [], 200) else some (k, x.1, y.1, z.1, ⟨#[]⟩, [], 0)
theorem next_any (s : ByteArray) (hs : s.size < 4294967281) (w : World) (he : Env w) (a b : ByteArray) (h : nextOf s = (a, b)) : Calls Tryd.prog 14 #[.string s] w (Gives (.tuple #[.string a, .string b]) w) := by
  obtain ⟨c1, c2, q, hc⟩ : ∃ c1 c2 q, Lib.cut s.data.toList [32] = (c1, c2, q) := ⟨_, _, _, rfl⟩
  simp only [nextOf, hc, Prod.mk.injEq] at h
  obtain ⟨rfl, rfl⟩ := h
  have HC := Lib.hid (cut_any s ⟨#[32]⟩ hs w he ⟨c1.toArray⟩ ⟨c2.toArray⟩ q hc)
  clear hc he
  go_enter Tryd.func14, Tryd.ntmps14
  go_wp2_with (go_at_call 22; refine (HC.out).mono ?_; rintro e w1 ⟨rfl, hb⟩)
  go_ret2
  exact ⟨rfl, hb⟩
theorem next_le (s a b : ByteArray) (h : nextOf s = (a, b)) : a.size ≤ s.size ∧ b.size ≤ s.size := by
  simp only [nextOf, Prod.mk.injEq] at h
  obtain ⟨rfl, rfl⟩ := h
  have : ∀ l sep : List UInt8, (Lib.cut l sep).1.length ≤ l.length ∧ (Lib.cut l sep).2.1.length ≤ l.length := by
    intro l sep
    unfold Lib.cut
    split
    · simp only [List.length_take, List.length_drop]; omega
    · simp
  have := this s.data.toList [32]
  exact ⟨by rw [Lib.size_eq, Lib.size_eq s]; exact this.1, by rw [Lib.size_eq, Lib.size_eq s]; exact this.2⟩
section
variable {w wc : World} {form a arr tmps : Array Value}
theorem read_rets (s : RSt w wc form a arr) (v0 v1 v2 v3 v4 v5 : Value) {Q : Ending → World → Prop} (hp : tmps.getD 4 undef = .pointer (some ⟨w.heap.size + 1, 0, none⟩))
    (hQ : Q (.returned (.tuple #[.agg #[v0, v1, v2, v3, v4, v5], tmps.getD 5 undef])) (World.setCell (World.setCell (World.setCell (World.setCell (World.setCell (World.setCell wc ⟨w.heap.size + 1, 0, none⟩ v0) ⟨w.heap.size + 1, 1, none⟩ v1) ⟨w.heap.size + 1, 2, none⟩ v2) ⟨w.heap.size + 1, 3, none⟩ v3) ⟨w.heap.size + 1, 4, none⟩ v4) ⟨w.heap.size + 1, 5, none⟩ v5)) :
    bodyPost Tryd.prog Tryd.f16 Q .ret { tmps := tmps, defers := [] } (World.setCell (World.setCell (World.setCell (World.setCell (World.setCell (World.setCell wc ⟨w.heap.size + 1, 0, none⟩ v0) ⟨w.heap.size + 1, 1, none⟩ v1) ⟨w.heap.size + 1, 2, none⟩ v2) ⟨w.heap.size + 1, 3, none⟩ v3) ⟨w.heap.size + 1, 4, none⟩ v4) ⟨w.heap.size + 1, 5, none⟩ v5) := by
  have h := (((((s.r.set_ 0 v0).set_ 1 v1).set_ 2 v2).set_ 3 v3).set_ 4 v4).set_ 5 v5
  simp at h
  exact bodyPost_ret (results_cell_row_tmp rfl _ _ _ _ _ _ _ hp h Tryd.underlying25 rfl (by kernel_rfl)) rfl hQ
theorem below_row {B : Nat} {a w : World} (h : Below B a w) (g : Nat) (hg : B ≤ g) (v0 v1 v2 v3 v4 v5 : Value) : Below B a (World.setCell (World.setCell (World.setCell (World.setCell (World.setCell (World.setCell w ⟨g, 0, none⟩ v0) ⟨g, 1, none⟩ v1) ⟨g, 2, none⟩ v2) ⟨g, 3, none⟩ v3) ⟨g, 4, none⟩ v4) ⟨g, 5, none⟩ v5) :=
  (((((h.setCell (p := ⟨g, 0, none⟩) hg v0).setCell (p := ⟨g, 1, none⟩) hg v1).setCell (p := ⟨g, 2, none⟩) hg v2).setCell (p := ⟨g, 3, none⟩) hg v3).setCell (p := ⟨g, 4, none⟩) hg v4).setCell (p := ⟨g, 5, none⟩) hg v5
theorem readEnd_nil {w w' : World} {e : Ending} {k t n c er : Int} {p : ByteArray} {R : Int × Int × Int × Int × ByteArray × List Int × Int} (hR : (k, t, n, c, p, ([] : List Int), er) = R)
    (he : e = .returned (.tuple #[.agg #[.int .i64 k, .int .i64 t, .int .i64 n, .int .i64 c, .string p, .slice none 0 0], .int .i64 er])) (hb : Below w.heap.size w w') : ReadEnd R.1 R.2.1 R.2.2.1 R.2.2.2.1 R.2.2.2.2.1 R.2.2.2.2.2.1 R.2.2.2.2.2.2 w e w' := by
  subst hR
  exact ⟨_, he, YtbkhhmgpfjemcaaDoorW.PrintWords.Kd.R_nil _ _ _ _ _, hb⟩
end
theorem row_kept {w w' : World} {B g : Nat} {v : Value} {bs : List Int} (h : YtbkhhmgpfjemcaaDoorW.PrintWords.Kd.R (YtbkhhmgpfjemcaaDoorW.PrintWords.Kd.int .u8) 5 w' B (fun _ => True) v bs) (hB : w.heap.size + 1 + 1 + 1 < B) (_hg : True) {x : Value} {v0 v1 v2 v3 v4 v5 : Value} :
    YtbkhhmgpfjemcaaDoorW.PrintWords.Kd.R (YtbkhhmgpfjemcaaDoorW.PrintWords.Kd.int .u8) 5 (World.setCell (World.setCell (World.setCell (World.setCell (World.setCell (World.setCell (World.setCell w' ⟨w.heap.size + 1 + 1, 5, none⟩ x) ⟨w.heap.size + 1, 0, none⟩ v0) ⟨w.heap.size + 1, 1, none⟩ v1) ⟨w.heap.size + 1, 2, none⟩ v2) ⟨w.heap.size + 1, 3, none⟩ v3) ⟨w.heap.size + 1, 4, none⟩ v4) ⟨w.heap.size + 1, 5, none⟩ v5) w.heap.size (fun _ => True) v bs := by
  have h0 := YtbkhhmgpfjemcaaDoorW.PrintWords.Kd.R_mono (YtbkhhmgpfjemcaaDoorW.PrintWords.Kd.R_bound h) (ok' := fun k => B ≤ k) (fun k hk => hk.2.1)
  have f : ∀ (wx : World) (p : Addr) (u : Value), p.block < B → YtbkhhmgpfjemcaaDoorW.PrintWords.Kd.R (YtbkhhmgpfjemcaaDoorW.PrintWords.Kd.int .u8) 5 wx B (fun k => B ≤ k) v bs → YtbkhhmgpfjemcaaDoorW.PrintWords.Kd.R (YtbkhhmgpfjemcaaDoorW.PrintWords.Kd.int .u8) 5 (wx.setCell p u) B (fun k => B ≤ k) v bs :=
    fun wx p u hp h => YtbkhhmgpfjemcaaDoorW.PrintWords.Kd.R_far h (fun k hk => by omega) u
  have h1 := f _ ⟨w.heap.size + 1, 5, none⟩ v5 (by show w.heap.size + 1 < B; omega) (f _ ⟨w.heap.size + 1, 4, none⟩ v4 (by show w.heap.size + 1 < B; omega) (f _ ⟨w.heap.size + 1, 3, none⟩ v3 (by show w.heap.size + 1 < B; omega) (f _ ⟨w.heap.size + 1, 2, none⟩ v2 (by show w.heap.size + 1 < B; omega) (f _ ⟨w.heap.size + 1, 1, none⟩ v1 (by show w.heap.size + 1 < B; omega) (f _ ⟨w.heap.size + 1, 0, none⟩ v0 (by show w.heap.size + 1 < B; omega) (f _ ⟨w.heap.size + 1 + 1, 5, none⟩ x (by show w.heap.size + 1 + 1 < B; omega) h0))))))
  exact YtbkhhmgpfjemcaaDoorW.PrintWords.Kd.R_mono (YtbkhhmgpfjemcaaDoorW.PrintWords.Kd.R_lower h1 (by omega)) (fun _ _ => trivial)
end Go.Proofs.YtbkhhmgpfjemcaaDoor
