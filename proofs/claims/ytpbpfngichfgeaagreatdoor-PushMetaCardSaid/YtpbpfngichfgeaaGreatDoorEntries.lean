/-
  Several texts in one: YtpbpfngichfgeaaGreatDoorEntryA, YtpbpfngichfgeaaGreatDoorEntryB.
-/
import Derived.Test.YtpbpfngichfgeaaGreatDoorEnv
import Derived.Test.YtpbpfngichfgeaaGreatDoorPaxGet
namespace Go.Proofs.YtpbpfngichfgeaaGreatDoor
open Go.RowKit

def nilS : ByteArray := ⟨#[]⟩
def recsV (A : Option Addr) (l : List Rec) (c : Nat) : Value := .slice A l.length c
def lookup (g l : List Rec) (key : ByteArray) : ByteArray := match getUpto l key l.length with
  | some v => v
  | none => (getUpto g key g.length).getD ⟨#[]⟩
def GetTo (v : ByteArray) (w : World) (e : Ending) (w' : World) : Prop := e = .returned (.tuple #[.string v, .bool (decide (v ≠ ⟨#[]⟩))]) ∧ Below w.heap.size w w'

theorem get1 (l : List Rec) (A : Option Addr) (c : Nat) (key : ByteArray) (w : World) (hr : Recs w A l) (hl : l.length ≤ 1000000) (r : Option ByteArray) (h : getUpto l key l.length = r) :
    Calls Tryz.prog 142 #[.slice A l.length c, .string key] w (GetEnd r w) := by subst h; exact get_any l A c key w hr hl

def WorldBox (w : World) (Ag Al : Option Addr) (ng cg nl cl : Nat) (nm lk : ByteArray) : World := w.alloc (.cells #[.slice Ag ng cg, .slice Al nl cl, .string nm, .string lk] 75)

set_option maxHeartbeats 2000000 in
theorem aheadGet_any (g l : List Rec) (Ag Al : Option Addr) (cg cl : Nat) (nm lk key : ByteArray) (w : World) (hg : Recs w Ag g) (hl : Recs w Al l) (lg : g.length ≤ 1000000) (ll : l.length ≤ 1000000) :
    Calls Tryz.prog 128 #[.agg #[.slice Ag g.length cg, .slice Al l.length cl, .string nm, .string lk], .string key] w (GetTo (lookup g l key) w) := by
  have hb : Below w.heap.size w (w.alloc (.cells #[.slice Ag g.length cg, .slice Al l.length cl, .string nm, .string lk] 75)) := (Below.refl _ _).alloc (Nat.le_refl _) _
  have HG := Lib.hid (hg.below hb)
  have HL := Lib.hid (hl.below hb)
  have HB := Lib.hid hb
  clear hg hl hb
  cases hr : getUpto l key l.length with
  | some v =>
    have hk : lookup g l key = v := by simp [lookup, hr]
    rw [hk]
    have HR := Lib.hid hr
    clear hr hk
    by_cases hv : v = ⟨#[]⟩
    · subst hv
      go_enter Tryz.func128, Tryz.ntmps128
      go_wp2_with (go_at_call 142; refine (get1 l Al cl key _ HL.out ll _ HR.out).mono ?_; rintro e w1 ⟨rfl, rfl⟩)
      go_ret2
      exact ⟨rfl, HB.out⟩
    · have hv2 := str_nonempty.2 hv
      have fin : decide (v ≠ ⟨#[]⟩) = true := by simpa using hv
      have FIN := Lib.hid fin
      clear hv fin
      go_enter Tryz.func128, Tryz.ntmps128
      go_wp2_with (go_at_call 142; refine (get1 l Al cl key _ HL.out ll _ HR.out).mono ?_; rintro e w1 ⟨rfl, rfl⟩)
      go_ret2
      exact ⟨by rw [FIN.out]; rfl, HB.out⟩
  | none =>
    have HR := Lib.hid hr
    cases hr2 : getUpto g key g.length with
    | some v =>
      have hk : lookup g l key = v := by simp [lookup, hr, hr2]
      rw [hk]
      have HR2 := Lib.hid hr2
      clear hr hr2 hk
      by_cases hv : v = ⟨#[]⟩
      · subst hv
        go_enter Tryz.func128, Tryz.ntmps128
        go_wp2_with fail
        refine (get1 l Al cl key _ HL.out ll _ HR.out).mono ?_
        rintro e w1 ⟨rfl, rfl⟩
        go_wp2_with fail
        refine (get1 g Ag cg key _ HG.out lg _ HR2.out).mono ?_
        rintro e w1 ⟨rfl, rfl⟩
        go_wp2_with fail
        go_ret2
        exact ⟨rfl, HB.out⟩
      · have hv2 := str_nonempty.2 hv
        have fin : decide (v ≠ ⟨#[]⟩) = true := by simpa using hv
        have FIN := Lib.hid fin
        clear hv fin
        go_enter Tryz.func128, Tryz.ntmps128
        go_wp2_with fail
        refine (get1 l Al cl key _ HL.out ll _ HR.out).mono ?_
        rintro e w1 ⟨rfl, rfl⟩
        go_wp2_with fail
        refine (get1 g Ag cg key _ HG.out lg _ HR2.out).mono ?_
        rintro e w1 ⟨rfl, rfl⟩
        go_wp2_with fail
        go_ret2
        exact ⟨by rw [FIN.out]; rfl, HB.out⟩
    | none =>
      have hk : lookup g l key = ⟨#[]⟩ := by simp [lookup, hr, hr2]
      rw [hk]
      have HR2 := Lib.hid hr2
      clear hr hr2 hk
      go_enter Tryz.func128, Tryz.ntmps128
      go_wp2_with fail
      refine (get1 l Al cl key _ HL.out ll _ HR.out).mono ?_
      rintro e w1 ⟨rfl, rfl⟩
      go_wp2_with fail
      refine (get1 g Ag cg key _ HG.out lg _ HR2.out).mono ?_
      rintro e w1 ⟨rfl, rfl⟩
      go_wp2_with fail
      go_ret2
      exact ⟨rfl, HB.out⟩
end Go.Proofs.YtpbpfngichfgeaaGreatDoor

namespace Go.Proofs.YtpbpfngichfgeaaGreatDoor
open Go.RowKit

def textOf (g l : List Rec) (key long short : ByteArray) : ByteArray := if lookup g l key ≠ ⟨#[]⟩ then lookup g l key else if long ≠ ⟨#[]⟩ then long else short
def numOf (g l : List Rec) (key : ByteArray) (short : Int) : Option Int := if lookup g l key ≠ ⟨#[]⟩ then numberOf (lookup g l key) else some short

theorem getB {f : FuncId} {args : Array Value} {w1 w2 : World} {v : ByteArray} (h : Calls Tryz.prog f args w1 (GetTo v w2)) (b : Bool) (hb : decide (v ≠ ⟨#[]⟩) = b) :
    Calls Tryz.prog f args w1 (Gives (.tuple #[.string v, .bool b]) w2) := h.mono fun _ _ ⟨a, c⟩ => ⟨by rw [← hb]; exact a, c⟩

set_option maxHeartbeats 2000000 in
theorem aheadText_any (g l : List Rec) (Ag Al : Option Addr) (cg cl : Nat) (nm lk key long short : ByteArray) (w : World) (hg : Recs w Ag g) (hl : Recs w Al l) (lg : g.length ≤ 1000000) (ll : l.length ≤ 1000000) :
    Calls Tryz.prog 109 #[.agg #[.slice Ag g.length cg, .slice Al l.length cl, .string nm, .string lk], .string key, .string long, .string short] w (Gives (.string (textOf g l key long short)) w) := by
  have hb : Below w.heap.size w (w.alloc (.cells #[.slice Ag g.length cg, .slice Al l.length cl, .string nm, .string lk] 75)) := (Below.refl _ _).alloc (Nat.le_refl _) _
  have HC := Lib.hid (aheadGet_any g l Ag Al cg cl nm lk key _ (hg.below hb) (hl.below hb) lg ll)
  have HB := Lib.hid hb
  clear hg hl hb
  obtain ⟨v, hv⟩ : ∃ v, lookup g l key = v := ⟨_, rfl⟩
  rw [hv] at HC
  unfold textOf
  rw [hv]
  clear hv
  by_cases h : v ≠ ⟨#[]⟩
  · rw [if_pos h]
    have h2 : decide (v ≠ ⟨#[]⟩) = true := by simpa using h
    have HC2 := Lib.hid (getB HC.out true h2)
    clear HC h h2
    go_enter Tryz.func109, Tryz.ntmps109
    go_wp2_with (go_at_call 128; refine (HC2.out).mono ?_; rintro e w1 ⟨rfl, hb1⟩)
    go_ret
    exact ⟨rfl, below_next HB.out hb1⟩
  · rw [if_neg h]
    have h2 : decide (v ≠ ⟨#[]⟩) = false := by simpa using h
    have HC2 := Lib.hid (getB HC.out false h2)
    clear HC h h2
    by_cases hq : long ≠ ⟨#[]⟩
    · rw [if_pos hq]
      have hq2 := str_nonempty.2 hq
      clear hq
      go_enter Tryz.func109, Tryz.ntmps109
      go_wp2_with (go_at_call 128; refine (HC2.out).mono ?_; rintro e w1 ⟨rfl, hb1⟩)
      go_ret
      exact ⟨rfl, below_next HB.out hb1⟩
    · rw [if_neg hq]
      obtain rfl : long = ⟨#[]⟩ := by simpa using hq
      clear hq
      go_enter Tryz.func109, Tryz.ntmps109
      go_wp2_with (go_at_call 128; refine (HC2.out).mono ?_; rintro e w1 ⟨rfl, hb1⟩)
      go_ret
      exact ⟨rfl, below_next HB.out hb1⟩

def numR (r : Option Int) : Value := match r with | some v => .tuple #[.int .i64 v, .int .i64 0] | none => .tuple #[.int .i64 0, .int .i64 70]
set_option maxHeartbeats 2000000 in
theorem aheadNumber_any (g l : List Rec) (Ag Al : Option Addr) (cg cl : Nat) (nm lk key : ByteArray) (short : Int) (w : World) (hg : Recs w Ag g) (hl : Recs w Al l) (lg : g.length ≤ 1000000) (ll : l.length ≤ 1000000) (hs : (lookup g l key).size ≤ 281474976710656) (he : EnvE w) :
    Calls Tryz.prog 111 #[.agg #[.slice Ag g.length cg, .slice Al l.length cl, .string nm, .string lk], .string key, .int .i64 short] w (Gives (numV (numOf g l key short)) w) := by
  have hb : Below w.heap.size w (w.alloc (.cells #[.slice Ag g.length cg, .slice Al l.length cl, .string nm, .string lk] 75)) := (Below.refl _ _).alloc (Nat.le_refl _) _
  have HC := Lib.hid (aheadGet_any g l Ag Al cg cl nm lk key _ (hg.below hb) (hl.below hb) lg ll)
  have HB := Lib.hid hb
  have HE := Lib.hid he
  clear hg hl hb he
  obtain ⟨v, hv⟩ : ∃ v, lookup g l key = v := ⟨_, rfl⟩
  rw [hv] at HC hs
  unfold numOf
  rw [hv]
  clear hv
  by_cases h : v ≠ ⟨#[]⟩
  · rw [if_pos h]
    have h2 : decide (v ≠ ⟨#[]⟩) = true := by simpa using h
    have HC2 := Lib.hid (getB HC.out true h2)
    clear HC h h2
    obtain ⟨r, hr⟩ : ∃ r, numberOf v = r := ⟨_, rfl⟩
    rw [hr]
    have HR := Lib.hid hr
    clear hr
    go_enter Tryz.func111, Tryz.ntmps111
    cases r with
    | none =>
      go_wp2_with (first | (go_at_call 128; refine (HC2.out).mono ?_; rintro e w1 ⟨rfl, hb1⟩) | (go_at_call 129; refine (number_any v hs _ (HE.out.below (below_next HB.out hb1))).mono ?_; rw [HR.out]; rintro e w2 ⟨rfl, hb2⟩; dsimp only [numV]))
      go_ret2
      exact ⟨rfl, below_next (below_next HB.out hb1) hb2⟩
    | some n =>
      go_wp2_with (first | (go_at_call 128; refine (HC2.out).mono ?_; rintro e w1 ⟨rfl, hb1⟩) | (go_at_call 129; refine (number_any v hs _ (HE.out.below (below_next HB.out hb1))).mono ?_; rw [HR.out]; rintro e w2 ⟨rfl, hb2⟩; dsimp only [numV]))
      go_ret2
      exact ⟨rfl, below_next (below_next HB.out hb1) hb2⟩
  · rw [if_neg h]
    have h2 : decide (v ≠ ⟨#[]⟩) = false := by simpa using h
    have HC2 := Lib.hid (getB HC.out false h2)
    clear HC h h2
    go_enter Tryz.func111, Tryz.ntmps111
    go_wp2_with (go_at_call 128; refine (HC2.out).mono ?_; rintro e w1 ⟨rfl, hb1⟩)
    go_ret2
    exact ⟨rfl, below_next HB.out hb1⟩

def kindOf (t : Int) : Int := if t = 0 then 1 else if t = 48 then 1 else if t = 55 then 1 else if t = 49 then 2 else if t = 50 then 3 else if t = 53 then 4 else 0
set_option maxHeartbeats 2000000 in
theorem kind_any (t : Int) (w : World) : Calls Tryz.prog 94 #[.int .u8 t] w fun e w' => e = .returned (.int .i64 (kindOf t)) ∧ w = w' := by
  by_cases h : t = 0 ∨ t = 48 ∨ t = 55 ∨ t = 49 ∨ t = 50 ∨ t = 53
  · rcases h with rfl | rfl | rfl | rfl | rfl | rfl
    all_goals
      go_enter Tryz.func94, Tryz.ntmps94
      go_wp2
      go_ret
      exact ⟨rfl, rfl⟩
  · have hk : kindOf t = 0 := by
      unfold kindOf
      rw [if_neg (by omega), if_neg (by omega), if_neg (by omega), if_neg (by omega), if_neg (by omega), if_neg (by omega)]
    rw [hk]
    have h0 : (t == 0) = false := by simp; omega
    have h1 : (t == 48) = false := by simp; omega
    have h2 : (t == 55) = false := by simp; omega
    have h3 : (t == 49) = false := by simp; omega
    have h4 : (t == 50) = false := by simp; omega
    have h5 : (t == 53) = false := by simp; omega
    clear h hk
    go_enter Tryz.func94, Tryz.ntmps94
    go_wp2
    go_ret
    exact ⟨rfl, rfl⟩

def fullOf (name pre : ByteArray) : ByteArray := if pre = ⟨#[]⟩ then name else pre ++ ⟨#[47]⟩ ++ name
set_option maxHeartbeats 2000000 in
theorem full_any (form : Int) (name link pre user group : ByteArray) (typ mode uid gid size mtime : Int) (hs : pre.size + name.size ≤ 4611686018427387904) (w : World) :
    Calls Tryz.prog 110 #[.agg #[.int .i64 form, .string name, .string link, .string pre, .string user, .string group, .int .u8 typ, .int .i64 mode, .int .i64 uid, .int .i64 gid, .int .i64 size, .int .i64 mtime]] w (Gives (.string (fullOf name pre)) w) := by
  unfold fullOf
  by_cases h : pre = ⟨#[]⟩
  · rw [if_pos h]
    subst h
    go_enter Tryz.func110, Tryz.ntmps110
    go_wp2
    go_ret
    exact ⟨rfl, (Below.refl _ _).alloc (Nat.le_refl _) _⟩
  · rw [if_neg h]
    have h2 := str_nonempty.2 h
    have a1 : ∀ wx, (Op.stringOp .add pre ⟨#[47]⟩).run Tryz.prog wx = .ok (.string (pre ++ ⟨#[47]⟩)) wx := fun wx => run_string_add_sum wx _ _ (by show pre.size + 1 ≤ _; omega)
    have a2 : ∀ wx, (Op.stringOp .add (pre ++ ⟨#[47]⟩) name).run Tryz.prog wx = .ok (.string (pre ++ ⟨#[47]⟩ ++ name)) wx := fun wx => run_string_add_sum wx _ _ (by rw [ByteArray.size_append]; show pre.size + 1 + name.size ≤ _; omega)
    clear h hs
    go_enter Tryz.func110, Tryz.ntmps110
    go_wp2
    go_ret
    exact ⟨rfl, (Below.refl _ _).alloc (Nat.le_refl _) _⟩
end Go.Proofs.YtpbpfngichfgeaaGreatDoor
