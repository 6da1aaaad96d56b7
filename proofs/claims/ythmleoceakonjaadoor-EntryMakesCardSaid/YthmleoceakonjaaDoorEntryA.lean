/-
  package entry by contracts: what stands ahead (get, text, number); kind.Kind; a header's whole name.
-/
import Derived.Test.YthmleoceakonjaaDoorEnv
import Derived.Test.YthmleoceakonjaaDoorPaxGet
namespace Go.Proofs.YthmleoceakonjaaDoor
open Go.RowKit

def nilS : ByteArray := ⟨#[]⟩
def recsV (A : Option Addr) (l : List Rec) (c : Nat) : Value := .slice A l.length c
def lookup (g l : List Rec) (key : ByteArray) : ByteArray := match getUpto l key l.length with
  | some v => v
  | none => (getUpto g key g.length).getD ⟨#[]⟩
def GetTo (v : ByteArray) (w : World) (e : Ending) (w' : World) : Prop := e = .returned (.tuple #[.string v, .bool (decide (v ≠ ⟨#[]⟩))]) ∧ Below w.heap.size w w'

theorem get1 (l : List Rec) (A : Option Addr) (c : Nat) (key : ByteArray) (w : World) (hr : Recs w A l) (hl : l.length ≤ 1000000) (r : Option ByteArray) (h : getUpto l key l.length = r) :
    Calls Tryd.prog 24 #[.slice A l.length c, .string key] w (GetEnd r w) := by subst h; exact get_any l A c key w hr hl

def WorldBox (w : World) (Ag Al : Option Addr) (ng cg nl cl : Nat) (nm lk : ByteArray) : World := w.alloc (.cells #[.slice Ag ng cg, .slice Al nl cl, .string nm, .string lk] 26)

set_option maxHeartbeats 2000000 in
theorem aheadGet_any (g l : List Rec) (Ag Al : Option Addr) (cg cl : Nat) (nm lk key : ByteArray) (w : World) (hg : Recs w Ag g) (hl : Recs w Al l) (lg : g.length ≤ 1000000) (ll : l.length ≤ 1000000) :
    Calls Tryd.prog 20 #[.agg #[.slice Ag g.length cg, .slice Al l.length cl, .string nm, .string lk], .string key] w (GetTo (lookup g l key) w) := by
  have hb : Below w.heap.size w (w.alloc (.cells #[.slice Ag g.length cg, .slice Al l.length cl, .string nm, .string lk] 26)) := (Below.refl _ _).alloc (Nat.le_refl _) _
  have HG := Lib.hid (hg.below hb)
  have HL := Lib.hid (hl.below hb)
  have HB := Lib.hid hb
  clear hg hl hb
  cases hr : getUpto l key l.length with
  | some v =>
    have hk : lookup g l key = v := by simp [lookup, hr]
    rw [hk]
    have HR := Lib.hid hr
    clear hr hk
    by_cases hv : v = ⟨#[]⟩
    · subst hv
      go_enter Tryd.func20, Tryd.ntmps20
      go_wp2_with (go_at_call 24; refine (get1 l Al cl key _ HL.out ll _ HR.out).mono ?_; rintro e w1 ⟨rfl, rfl⟩)
      go_ret2
      exact ⟨rfl, HB.out⟩
    · have hv2 := str_nonempty.2 hv
      have fin : decide (v ≠ ⟨#[]⟩) = true := by simpa using hv
      have FIN := Lib.hid fin
      clear hv fin
      go_enter Tryd.func20, Tryd.ntmps20
      go_wp2_with (go_at_call 24; refine (get1 l Al cl key _ HL.out ll _ HR.out).mono ?_; rintro e w1 ⟨rfl, rfl⟩)
      go_ret2
      exact ⟨by rw [FIN.out]; rfl, HB.out⟩
  | none =>
    have HR := Lib.hid hr
    cases hr2 : getUpto g key g.length with
    | some v =>
      have hk : lookup g l key = v := by simp [lookup, hr, hr2]
      rw [hk]
      have HR2 := Lib.hid hr2
      clear hr hr2 hk
      by_cases hv : v = ⟨#[]⟩
      · subst hv
        go_enter Tryd.func20, Tryd.ntmps20
        go_wp2_with fail
        refine (get1 l Al cl key _ HL.out ll _ HR.out).mono ?_
        rintro e w1 ⟨rfl, rfl⟩
        go_wp2_with fail
        refine (get1 g Ag cg key _ HG.out lg _ HR2.out).mono ?_
        rintro e w1 ⟨rfl, rfl⟩
        go_wp2_with fail
        go_ret2
        exact ⟨rfl, HB.out⟩
      · have hv2 := str_nonempty.2 hv
        have fin : decide (v ≠ ⟨#[]⟩) = true := by simpa using hv
        have FIN := Lib.hid fin
        clear hv fin
        go_enter Tryd.func20, Tryd.ntmps20
        go_wp2_with fail
        refine (get1 l Al cl key _ HL.out ll _ HR.out).mono ?_
        rintro e w1 ⟨rfl, rfl⟩
        go_wp2_with fail
        refine (get1 g Ag cg key _ HG.out lg _ HR2.out).mono ?_
        rintro e w1 ⟨rfl, rfl⟩
        go_wp2_with fail
        go_ret2
        exact ⟨by rw [FIN.out]; rfl, HB.out⟩
    | none =>
      have hk : lookup g l key = ⟨#[]⟩ := by simp [lookup, hr, hr2]
      rw [hk]
      have HR2 := Lib.hid hr2
      clear hr hr2 hk
      go_enter Tryd.func20, Tryd.ntmps20
      go_wp2_with fail
      refine (get1 l Al cl key _ HL.out ll _ HR.out).mono ?_
      rintro e w1 ⟨rfl, rfl⟩
      go_wp2_with fail
      refine (get1 g Ag cg key _ HG.out lg _ HR2.out).mono ?_
      rintro e w1 ⟨rfl, rfl⟩
      go_wp2_with fail
      go_ret2
      exact ⟨rfl, HB.out⟩
end Go.Proofs.YthmleoceakonjaaDoor
