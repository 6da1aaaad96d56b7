/-
  Several texts in one: YtpbpfngichfgeaaGreatDoorEntryA, YtpbpfngichfgeaaGreatDoorEntryB, YtpbpfngichfgeaaGreatDoorMakeS, YtpbpfngichfgeaaGreatDoorMake, YtpbpfngichfgeaaGreatDoorPad, YtpbpfngichfgeaaGreatDoorMade.
-/
import Derived.Test.YtpbpfngichfgeaaGreatDoorEnv
import Derived.Test.YtpbpfngichfgeaaGreatDoorPaxGet
import Derived.Laws.Rows
import Derived.Deep.RegionHeld3
import Derived.Outline
import Derived.Laws.ResultCell
namespace Go.Proofs.YtpbpfngichfgeaaGreatDoor
open Go.RowKit

def nilS : ByteArray := ⟨#[]⟩
def recsV (A : Option Addr) (l : List Rec) (c : Nat) : Value := .slice A l.length c
def lookup (g l : List Rec) (key : ByteArray) : ByteArray := match getUpto l key l.length with
  | some v => v
  | none => (getUpto g key g.length).getD ⟨#[]⟩
def GetTo (v : ByteArray) (w : World) (e : Ending) (w' : World) : Prop := e = .returned (.tuple #[.string v, .bool (decide (v ≠ ⟨#[]⟩))]) ∧ Below w.heap.size w w'

theorem get1 (l : List Rec) (A : Option Addr) (c : Nat) (key : ByteArray) (w : World) (hr : Recs w A l) (hl : l.length ≤ 1000000) (r : Option ByteArray) (h : getUpto l key l.length = r) :
    Calls Tryz.prog 142 #[.slice A l.length c, .string key] w (GetEnd r w) := by subst h; exact get_any l A c key w hr hl

def WorldBox (w : World) (Ag Al : Option Addr) (ng cg nl cl : Nat) (nm lk : ByteArray) : World := w.alloc (.cells #[.slice Ag ng cg, .slice Al nl cl, .string nm, .string lk] 75)

set_option maxHeartbeats 2000000 in
theorem aheadGet_any (g l : List Rec) (Ag Al : Option Addr) (cg cl : Nat) (nm lk key : ByteArray) (w : World) (hg : Recs w Ag g) (hl : Recs w Al l) (lg : g.length ≤ 1000000) (ll : l.length ≤ 1000000) :
    Calls Tryz.prog 128 #[.agg #[.slice Ag g.length cg, .slice Al l.length cl, .string nm, .string lk], .string key] w (GetTo (lookup g l key) w) := by
  have hb : Below w.heap.size w (w.alloc (.cells #[.slice Ag g.length cg, .slice Al l.length cl, .string nm, .string lk] 75)) := (Below.refl _ _).alloc (Nat.le_refl _) _
  have HG := Lib.hid (hg.below hb)
  have HL := Lib.hid (hl.below hb)
  have HB := Lib.hid hb
  clear hg hl hb
  cases hr : getUpto l key l.length with
  | some v =>
    have hk : lookup g l key = v := by simp [lookup, hr]
    rw [hk]
    have HR := Lib.hid hr
    clear hr hk
    by_cases hv : v = ⟨#[]⟩
    · subst hv
      go_enter Tryz.func128, Tryz.ntmps128
      go_wp2_with (go_at_call 142; refine (get1 l Al cl key _ HL.out ll _ HR.out).mono ?_; rintro e w1 ⟨rfl, rfl⟩)
      go_ret2
      exact ⟨rfl, HB.out⟩
    · have hv2 := str_nonempty.2 hv
      have fin : decide (v ≠ ⟨#[]⟩) = true := by simpa using hv
      have FIN := Lib.hid fin
      clear hv fin
      go_enter Tryz.func128, Tryz.ntmps128
      go_wp2_with (go_at_call 142; refine (get1 l Al cl key _ HL.out ll _ HR.out).mono ?_; rintro e w1 ⟨rfl, rfl⟩)
      go_ret2
      exact ⟨by rw [FIN.out]; rfl, HB.out⟩
  | none =>
    have HR := Lib.hid hr
    cases hr2 : getUpto g key g.length with
    | some v =>
      have hk : lookup g l key = v := by simp [lookup, hr, hr2]
      rw [hk]
      have HR2 := Lib.hid hr2
      clear hr hr2 hk
      by_cases hv : v = ⟨#[]⟩
      · subst hv
        go_enter Tryz.func128, Tryz.ntmps128
        go_wp2_with fail
        refine (get1 l Al cl key _ HL.out ll _ HR.out).mono ?_
        rintro e w1 ⟨rfl, rfl⟩
        go_wp2_with fail
        refine (get1 g Ag cg key _ HG.out lg _ HR2.out).mono ?_
        rintro e w1 ⟨rfl, rfl⟩
        go_wp2_with fail
        go_ret2
        exact ⟨rfl, HB.out⟩
      · have hv2 := str_nonempty.2 hv
        have fin : decide (v ≠ ⟨#[]⟩) = true := by simpa using hv
        have FIN := Lib.hid fin
        clear hv fin
        go_enter Tryz.func128, Tryz.ntmps128
        go_wp2_with fail
        refine (get1 l Al cl key _ HL.out ll _ HR.out).mono ?_
        rintro e w1 ⟨rfl, rfl⟩
        go_wp2_with fail
        refine (get1 g Ag cg key _ HG.out lg _ HR2.out).mono ?_
        rintro e w1 ⟨rfl, rfl⟩
        go_wp2_with fail
        go_ret2
        exact ⟨by rw [FIN.out]; rfl, HB.out⟩
    | none =>
      have hk : lookup g l key = ⟨#[]⟩ := by simp [lookup, hr, hr2]
      rw [hk]
      have HR2 := Lib.hid hr2
      clear hr hr2 hk
      go_enter Tryz.func128, Tryz.ntmps128
      go_wp2_with fail
      refine (get1 l Al cl key _ HL.out ll _ HR.out).mono ?_
      rintro e w1 ⟨rfl, rfl⟩
      go_wp2_with fail
      refine (get1 g Ag cg key _ HG.out lg _ HR2.out).mono ?_
      rintro e w1 ⟨rfl, rfl⟩
      go_wp2_with fail
      go_ret2
      exact ⟨rfl, HB.out⟩
end Go.Proofs.YtpbpfngichfgeaaGreatDoor

namespace Go.Proofs.YtpbpfngichfgeaaGreatDoor
open Go.RowKit

def textOf (g l : List Rec) (key long short : ByteArray) : ByteArray := if lookup g l key ≠ ⟨#[]⟩ then lookup g l key else if long ≠ ⟨#[]⟩ then long else short
def numOf (g l : List Rec) (key : ByteArray) (short : Int) : Option Int := if lookup g l key ≠ ⟨#[]⟩ then numberOf (lookup g l key) else some short

theorem getB {f : FuncId} {args : Array Value} {w1 w2 : World} {v : ByteArray} (h : Calls Tryz.prog f args w1 (GetTo v w2)) (b : Bool) (hb : decide (v ≠ ⟨#[]⟩) = b) :
    Calls Tryz.prog f args w1 (Gives (.tuple #[.string v, .bool b]) w2) := h.mono fun _ _ ⟨a, c⟩ => ⟨by rw [← hb]; exact a, c⟩

set_option maxHeartbeats 2000000 in
theorem aheadText_any (g l : List Rec) (Ag Al : Option Addr) (cg cl : Nat) (nm lk key long short : ByteArray) (w : World) (hg : Recs w Ag g) (hl : Recs w Al l) (lg : g.length ≤ 1000000) (ll : l.length ≤ 1000000) :
    Calls Tryz.prog 109 #[.agg #[.slice Ag g.length cg, .slice Al l.length cl, .string nm, .string lk], .string key, .string long, .string short] w (Gives (.string (textOf g l key long short)) w) := by
  have hb : Below w.heap.size w (w.alloc (.cells #[.slice Ag g.length cg, .slice Al l.length cl, .string nm, .string lk] 75)) := (Below.refl _ _).alloc (Nat.le_refl _) _
  have HC := Lib.hid (aheadGet_any g l Ag Al cg cl nm lk key _ (hg.below hb) (hl.below hb) lg ll)
  have HB := Lib.hid hb
  clear hg hl hb
  obtain ⟨v, hv⟩ : ∃ v, lookup g l key = v := ⟨_, rfl⟩
  rw [hv] at HC
  unfold textOf
  rw [hv]
  clear hv
  by_cases h : v ≠ ⟨#[]⟩
  · rw [if_pos h]
    have h2 : decide (v ≠ ⟨#[]⟩) = true := by simpa using h
    have HC2 := Lib.hid (getB HC.out true h2)
    clear HC h h2
    go_enter Tryz.func109, Tryz.ntmps109
    go_wp2_with (go_at_call 128; refine (HC2.out).mono ?_; rintro e w1 ⟨rfl, hb1⟩)
    go_ret
    exact ⟨rfl, below_next HB.out hb1⟩
  · rw [if_neg h]
    have h2 : decide (v ≠ ⟨#[]⟩) = false := by simpa using h
    have HC2 := Lib.hid (getB HC.out false h2)
    clear HC h h2
    by_cases hq : long ≠ ⟨#[]⟩
    · rw [if_pos hq]
      have hq2 := str_nonempty.2 hq
      clear hq
      go_enter Tryz.func109, Tryz.ntmps109
      go_wp2_with (go_at_call 128; refine (HC2.out).mono ?_; rintro e w1 ⟨rfl, hb1⟩)
      go_ret
      exact ⟨rfl, below_next HB.out hb1⟩
    · rw [if_neg hq]
      obtain rfl : long = ⟨#[]⟩ := by simpa using hq
      clear hq
      go_enter Tryz.func109, Tryz.ntmps109
      go_wp2_with (go_at_call 128; refine (HC2.out).mono ?_; rintro e w1 ⟨rfl, hb1⟩)
      go_ret
      exact ⟨rfl, below_next HB.out hb1⟩

def numR (r : Option Int) : Value := match r with | some v => .tuple #[.int .i64 v, .int .i64 0] | none => .tuple #[.int .i64 0, .int .i64 70]
set_option maxHeartbeats 2000000 in
theorem aheadNumber_any (g l : List Rec) (Ag Al : Option Addr) (cg cl : Nat) (nm lk key : ByteArray) (short : Int) (w : World) (hg : Recs w Ag g) (hl : Recs w Al l) (lg : g.length ≤ 1000000) (ll : l.length ≤ 1000000) (hs : (lookup g l key).size ≤ 281474976710656) (he : EnvE w) :
    Calls Tryz.prog 111 #[.agg #[.slice Ag g.length cg, .slice Al l.length cl, .string nm, .string lk], .string key, .int .i64 short] w (Gives (numV (numOf g l key short)) w) := by
  have hb : Below w.heap.size w (w.alloc (.cells #[.slice Ag g.length cg, .slice Al l.length cl, .string nm, .string lk] 75)) := (Below.refl _ _).alloc (Nat.le_refl _) _
  have HC := Lib.hid (aheadGet_any g l Ag Al cg cl nm lk key _ (hg.below hb) (hl.below hb) lg ll)
  have HB := Lib.hid hb
  have HE := Lib.hid he
  clear hg hl hb he
  obtain ⟨v, hv⟩ : ∃ v, lookup g l key = v := ⟨_, rfl⟩
  rw [hv] at HC hs
  unfold numOf
  rw [hv]
  clear hv
  by_cases h : v ≠ ⟨#[]⟩
  · rw [if_pos h]
    have h2 : decide (v ≠ ⟨#[]⟩) = true := by simpa using h
    have HC2 := Lib.hid (getB HC.out true h2)
    clear HC h h2
    obtain ⟨r, hr⟩ : ∃ r, numberOf v = r := ⟨_, rfl⟩
    rw [hr]
    have HR := Lib.hid hr
    clear hr
    go_enter Tryz.func111, Tryz.ntmps111
    cases r with
    | none =>
      go_wp2_with (first | (go_at_call 128; refine (HC2.out).mono ?_; rintro e w1 ⟨rfl, hb1⟩) | (go_at_call 129; refine (number_any v hs _ (HE.out.below (below_next HB.out hb1))).mono ?_; rw [HR.out]; rintro e w2 ⟨rfl, hb2⟩; dsimp only [numV]))
      go_ret2
      exact ⟨rfl, below_next (below_next HB.out hb1) hb2⟩
    | some n =>
      go_wp2_with (first | (go_at_call 128; refine (HC2.out).mono ?_; rintro e w1 ⟨rfl, hb1⟩) | (go_at_call 129; refine (number_any v hs _ (HE.out.below (below_next HB.out hb1))).mono ?_; rw [HR.out]; rintro e w2 ⟨rfl, hb2⟩; dsimp only [numV]))
      go_ret2
      exact ⟨rfl, below_next (below_next HB.out hb1) hb2⟩
  · rw [if_neg h]
    have h2 : decide (v ≠ ⟨#[]⟩) = false := by simpa using h
    have HC2 := Lib.hid (getB HC.out false h2)
    clear HC h h2
    go_enter Tryz.func111, Tryz.ntmps111
    go_wp2_with (go_at_call 128; refine (HC2.out).mono ?_; rintro e w1 ⟨rfl, hb1⟩)
    go_ret2
    exact ⟨rfl, below_next HB.out hb1⟩

def kindOf (t : Int) : Int := if t = 0 then 1 else if t = 48 then 1 else if t = 55 then 1 else if t = 49 then 2 else if t = 50 then 3 else if t = 53 then 4 else 0
set_option maxHeartbeats 2000000 in
theorem kind_any (t : Int) (w : World) : Calls Tryz.prog 94 #[.int .u8 t] w fun e w' => e = .returned (.int .i64 (kindOf t)) ∧ w = w' := by
  by_cases h : t = 0 ∨ t = 48 ∨ t = 55 ∨ t = 49 ∨ t = 50 ∨ t = 53
  · rcases h with rfl | rfl | rfl | rfl | rfl | rfl
    all_goals
      go_enter Tryz.func94, Tryz.ntmps94
      go_wp2
      go_ret
      exact ⟨rfl, rfl⟩
  · have hk : kindOf t = 0 := by
      unfold kindOf
      rw [if_neg (by omega), if_neg (by omega), if_neg (by omega), if_neg (by omega), if_neg (by omega), if_neg (by omega)]
    rw [hk]
    have h0 : (t == 0) = false := by simp; omega
    have h1 : (t == 48) = false := by simp; omega
    have h2 : (t == 55) = false := by simp; omega
    have h3 : (t == 49) = false := by simp; omega
    have h4 : (t == 50) = false := by simp; omega
    have h5 : (t == 53) = false := by simp; omega
    clear h hk
    go_enter Tryz.func94, Tryz.ntmps94
    go_wp2
    go_ret
    exact ⟨rfl, rfl⟩

def fullOf (name pre : ByteArray) : ByteArray := if pre = ⟨#[]⟩ then name else pre ++ ⟨#[47]⟩ ++ name
set_option maxHeartbeats 2000000 in
theorem full_any (form : Int) (name link pre user group : ByteArray) (typ mode uid gid size mtime : Int) (hs : pre.size + name.size ≤ 4611686018427387904) (w : World) :
    Calls Tryz.prog 110 #[.agg #[.int .i64 form, .string name, .string link, .string pre, .string user, .string group, .int .u8 typ, .int .i64 mode, .int .i64 uid, .int .i64 gid, .int .i64 size, .int .i64 mtime]] w (Gives (.string (fullOf name pre)) w) := by
  unfold fullOf
  by_cases h : pre = ⟨#[]⟩
  · rw [if_pos h]
    subst h
    go_enter Tryz.func110, Tryz.ntmps110
    go_wp2
    go_ret
    exact ⟨rfl, (Below.refl _ _).alloc (Nat.le_refl _) _⟩
  · rw [if_neg h]
    have h2 := str_nonempty.2 h
    have a1 : ∀ wx, (Op.stringOp .add pre ⟨#[47]⟩).run Tryz.prog wx = .ok (.string (pre ++ ⟨#[47]⟩)) wx := fun wx => run_string_add_sum wx _ _ (by show pre.size + 1 ≤ _; omega)
    have a2 : ∀ wx, (Op.stringOp .add (pre ++ ⟨#[47]⟩) name).run Tryz.prog wx = .ok (.string (pre ++ ⟨#[47]⟩ ++ name)) wx := fun wx => run_string_add_sum wx _ _ (by rw [ByteArray.size_append]; show pre.size + 1 + name.size ≤ _; omega)
    clear h hs
    go_enter Tryz.func110, Tryz.ntmps110
    go_wp2
    go_ret
    exact ⟨rfl, (Below.refl _ _).alloc (Nat.le_refl _) _⟩
end Go.Proofs.YtpbpfngichfgeaaGreatDoor

namespace Go.Proofs.YtpbpfngichfgeaaGreatDoor
open Go.RowKit

structure St (w wc : World) (hdr ahd res ent : Array Value) : Prop where
  b : Below w.heap.size w wc
  h : Blk wc (w.heap.size) 36 hdr
  a : Blk wc (w.heap.size + 1) 75 ahd
  r : Blk wc (w.heap.size + 1 + 1) 41 res
  e : Blk wc (w.heap.size + 1 + 1 + 1) 41 ent
section
variable {w wc w' : World} {hdr ahd res ent : Array Value}
theorem St.next (s : St w wc hdr ahd res ent) (hb : Below wc.heap.size wc w') : St w w' hdr ahd res ent :=
  ⟨below_next s.b hb, s.h.below hb s.h.lt, s.a.below hb s.a.lt, s.r.below hb s.r.lt, s.e.below hb s.e.lt⟩
theorem St.drew (s : St w wc hdr ahd res ent) : St w wc.drew hdr ahd res ent := ⟨s.b.drew, s.h, s.a, s.r, s.e⟩
theorem St.alloc (s : St w wc hdr ahd res ent) (o : Obj) : St w (wc.alloc o) hdr ahd res ent := s.next ((Below.refl _ _).alloc (Nat.le_refl _) _)
theorem St.setE (s : St w wc hdr ahd res ent) (i : Nat) (v : Value) : St w (wc.setCell ⟨w.heap.size + 1 + 1 + 1, i, none⟩ v) hdr ahd res (ent.setIfInBounds i v) :=
  ⟨s.b.setCell (p := ⟨w.heap.size + 1 + 1 + 1, i, none⟩) (by show _ ≤ w.heap.size + 1 + 1 + 1; omega) v, s.h.far (by simp <;> omega) _, s.a.far (by simp <;> omega) _, s.r.far (by simp) _, s.e.set_ i v⟩
theorem St.setR (s : St w wc hdr ahd res ent) (i : Nat) (v : Value) : St w (wc.setCell ⟨w.heap.size + 1 + 1, i, none⟩ v) hdr ahd (res.setIfInBounds i v) ent :=
  ⟨s.b.setCell (p := ⟨w.heap.size + 1 + 1, i, none⟩) (by show _ ≤ w.heap.size + 1 + 1; omega) v, s.h.far (by simp <;> omega) _, s.a.far (by simp) _, s.r.set_ i v, s.e.far (by simp) _⟩
theorem St.first (w : World) (hdr ahd res ent : Array Value) : St w ((((w.alloc (.cells hdr 36)).alloc (.cells ahd 75)).alloc (.cells res 41)).alloc (.cells ent 41)) hdr ahd res ent where
  b := ((((Below.refl _ _).alloc (Nat.le_refl _) _).alloc (by simp) _).alloc (by simp; omega) _).alloc (by simp; omega) _
  h := (((Blk.new w _ _).alloc _).alloc _).alloc _
  a := (((by simpa using Blk.new (w.alloc (.cells hdr 36)) 75 ahd : Blk _ (w.heap.size + 1) 75 ahd).alloc _).alloc _)
  r := ((by simpa using Blk.new ((w.alloc (.cells hdr 36)).alloc (.cells ahd 75)) 41 res : Blk _ (w.heap.size + 1 + 1) 41 res).alloc _)
  e := (by simpa using Blk.new (((w.alloc (.cells hdr 36)).alloc (.cells ahd 75)).alloc (.cells res 41)) 41 ent : Blk _ (w.heap.size + 1 + 1 + 1) 41 ent)
end
/-- The cells of the two arguments' boxes. -/
theorem St.args {w wc : World} {res ent : Array Value} {h0 h1 h2 h3 h4 h5 h6 h7 h8 h9 h10 h11 a0 a1 a2 a3 : Value} (s : St w wc #[h0, h1, h2, h3, h4, h5, h6, h7, h8, h9, h10, h11] #[a0, a1, a2, a3] res ent) : wc.cell? ⟨w.heap.size, 0, none⟩ = some h0 ∧ wc.cell? ⟨w.heap.size, 1, none⟩ = some h1 ∧ wc.cell? ⟨w.heap.size, 2, none⟩ = some h2 ∧ wc.cell? ⟨w.heap.size, 3, none⟩ = some h3 ∧ wc.cell? ⟨w.heap.size, 4, none⟩ = some h4 ∧ wc.cell? ⟨w.heap.size, 5, none⟩ = some h5 ∧ wc.cell? ⟨w.heap.size, 6, none⟩ = some h6 ∧ wc.cell? ⟨w.heap.size, 7, none⟩ = some h7 ∧ wc.cell? ⟨w.heap.size, 8, none⟩ = some h8 ∧ wc.cell? ⟨w.heap.size, 9, none⟩ = some h9 ∧ wc.cell? ⟨w.heap.size, 10, none⟩ = some h10 ∧ wc.cell? ⟨w.heap.size, 11, none⟩ = some h11 ∧ wc.cell? ⟨w.heap.size + 1, 0, none⟩ = some a0 ∧ wc.cell? ⟨w.heap.size + 1, 1, none⟩ = some a1 ∧ wc.cell? ⟨w.heap.size + 1, 2, none⟩ = some a2 ∧ wc.cell? ⟨w.heap.size + 1, 3, none⟩ = some a3 :=
  ⟨s.h.cell 0, s.h.cell 1, s.h.cell 2, s.h.cell 3, s.h.cell 4, s.h.cell 5, s.h.cell 6, s.h.cell 7, s.h.cell 8, s.h.cell 9, s.h.cell 10, s.h.cell 11, s.a.cell 0, s.a.cell 1, s.a.cell 2, s.a.cell 3⟩
theorem St.ents {w wc : World} {hdr ahd res : Array Value} {e0 e1 e2 e3 e4 e5 e6 e7 e8 e9 : Value} (s : St w wc hdr ahd res #[e0, e1, e2, e3, e4, e5, e6, e7, e8, e9]) : wc.cell? ⟨w.heap.size + 1 + 1 + 1, 0, none⟩ = some e0 ∧ wc.cell? ⟨w.heap.size + 1 + 1 + 1, 1, none⟩ = some e1 ∧ wc.cell? ⟨w.heap.size + 1 + 1 + 1, 2, none⟩ = some e2 ∧ wc.cell? ⟨w.heap.size + 1 + 1 + 1, 3, none⟩ = some e3 ∧ wc.cell? ⟨w.heap.size + 1 + 1 + 1, 4, none⟩ = some e4 ∧ wc.cell? ⟨w.heap.size + 1 + 1 + 1, 5, none⟩ = some e5 ∧ wc.cell? ⟨w.heap.size + 1 + 1 + 1, 6, none⟩ = some e6 ∧ wc.cell? ⟨w.heap.size + 1 + 1 + 1, 7, none⟩ = some e7 ∧ wc.cell? ⟨w.heap.size + 1 + 1 + 1, 8, none⟩ = some e8 ∧ wc.cell? ⟨w.heap.size + 1 + 1 + 1, 9, none⟩ = some e9 :=
  ⟨s.e.cell 0, s.e.cell 1, s.e.cell 2, s.e.cell 3, s.e.cell 4, s.e.cell 5, s.e.cell 6, s.e.cell 7, s.e.cell 8, s.e.cell 9⟩
theorem St.entsf {w wc : World} {hdr ahd res ent : Array Value} (s : St w wc hdr ahd res ent) : wc.frozen? ⟨w.heap.size + 1 + 1 + 1, 0, none⟩ = false ∧ wc.frozen? ⟨w.heap.size + 1 + 1 + 1, 1, none⟩ = false ∧ wc.frozen? ⟨w.heap.size + 1 + 1 + 1, 2, none⟩ = false ∧ wc.frozen? ⟨w.heap.size + 1 + 1 + 1, 3, none⟩ = false ∧ wc.frozen? ⟨w.heap.size + 1 + 1 + 1, 4, none⟩ = false ∧ wc.frozen? ⟨w.heap.size + 1 + 1 + 1, 5, none⟩ = false ∧ wc.frozen? ⟨w.heap.size + 1 + 1 + 1, 6, none⟩ = false ∧ wc.frozen? ⟨w.heap.size + 1 + 1 + 1, 7, none⟩ = false ∧ wc.frozen? ⟨w.heap.size + 1 + 1 + 1, 8, none⟩ = false ∧ wc.frozen? ⟨w.heap.size + 1 + 1 + 1, 9, none⟩ = false :=
  ⟨s.e.frozen 0, s.e.frozen 1, s.e.frozen 2, s.e.frozen 3, s.e.frozen 4, s.e.frozen 5, s.e.frozen 6, s.e.frozen 7, s.e.frozen 8, s.e.frozen 9⟩
theorem St.ress {w wc : World} {hdr ahd ent : Array Value} {e0 e1 e2 e3 e4 e5 e6 e7 e8 e9 : Value} (s : St w wc hdr ahd #[e0, e1, e2, e3, e4, e5, e6, e7, e8, e9] ent) : wc.cell? ⟨w.heap.size + 1 + 1, 0, none⟩ = some e0 ∧ wc.cell? ⟨w.heap.size + 1 + 1, 1, none⟩ = some e1 ∧ wc.cell? ⟨w.heap.size + 1 + 1, 2, none⟩ = some e2 ∧ wc.cell? ⟨w.heap.size + 1 + 1, 3, none⟩ = some e3 ∧ wc.cell? ⟨w.heap.size + 1 + 1, 4, none⟩ = some e4 ∧ wc.cell? ⟨w.heap.size + 1 + 1, 5, none⟩ = some e5 ∧ wc.cell? ⟨w.heap.size + 1 + 1, 6, none⟩ = some e6 ∧ wc.cell? ⟨w.heap.size + 1 + 1, 7, none⟩ = some e7 ∧ wc.cell? ⟨w.heap.size + 1 + 1, 8, none⟩ = some e8 ∧ wc.cell? ⟨w.heap.size + 1 + 1, 9, none⟩ = some e9 :=
  ⟨s.r.cell 0, s.r.cell 1, s.r.cell 2, s.r.cell 3, s.r.cell 4, s.r.cell 5, s.r.cell 6, s.r.cell 7, s.r.cell 8, s.r.cell 9⟩
theorem St.ressf {w wc : World} {hdr ahd res ent : Array Value} (s : St w wc hdr ahd res ent) : wc.frozen? ⟨w.heap.size + 1 + 1, 0, none⟩ = false ∧ wc.frozen? ⟨w.heap.size + 1 + 1, 1, none⟩ = false ∧ wc.frozen? ⟨w.heap.size + 1 + 1, 2, none⟩ = false ∧ wc.frozen? ⟨w.heap.size + 1 + 1, 3, none⟩ = false ∧ wc.frozen? ⟨w.heap.size + 1 + 1, 4, none⟩ = false ∧ wc.frozen? ⟨w.heap.size + 1 + 1, 5, none⟩ = false ∧ wc.frozen? ⟨w.heap.size + 1 + 1, 6, none⟩ = false ∧ wc.frozen? ⟨w.heap.size + 1 + 1, 7, none⟩ = false ∧ wc.frozen? ⟨w.heap.size + 1 + 1, 8, none⟩ = false ∧ wc.frozen? ⟨w.heap.size + 1 + 1, 9, none⟩ = false :=
  ⟨s.r.frozen 0, s.r.frozen 1, s.r.frozen 2, s.r.frozen 3, s.r.frozen 4, s.r.frozen 5, s.r.frozen 6, s.r.frozen 7, s.r.frozen 8, s.r.frozen 9⟩

theorem results_cell_row_tmp {P : Program} {fn : Func} {p u : Tmp} {ty : TypeId} (h : fn.results = #[.cell p ty, .tmp u]) (tmps : Array Value) (w : World) (g : Nat) (t : TypeId) (cs : Array Value) (fr : Nat × Nat) (d : TypeDesc)
    (hp : tmps.getD p undef = .pointer (some ⟨g, 0, none⟩)) (hg : w.heap[g]? = some (.cells cs t fr))
    (hu : P.underlying ty = some d) (hd : (match d with | .struct _ | .array _ _ => true | _ => false) = true) (hi : (P.info? ty).map (·.size) = some cs.size) :
    (results fn tmps).run P w = .ok (.tuple #[.agg cs, tmps.getD u undef]) w := by
  have hp' : tmps[p]?.getD undef = .pointer (some ⟨g, 0, none⟩) := by simpa using hp
  simp [results, h, hp', asAddr, run_loadVar_row w g t ty cs fr d hg hu hd hi]
theorem make_ret {w wF : World} {hdr ahd res ent : Array Value} {tmps : Array Value} {V : Value} (s : St w wF hdr ahd res ent) (hp : tmps.getD 4 undef = .pointer (some ⟨w.heap.size + 1 + 1, 0, none⟩)) (hs : res.size = 10) (hV : V = .tuple #[.agg res, tmps.getD 5 undef]) :
    bodyPost Tryz.prog Tryz.f95 (Gives V w) .ret { tmps := tmps, defers := [] } wF :=
  bodyPost_ret (by rw [hV]; exact results_cell_row_tmp rfl _ _ _ _ _ _ _ hp s.r Tryz.underlying41 rfl (by rw [hs]; kernel_rfl)) rfl ⟨rfl, s.b⟩
theorem St.rets {w wc : World} {hdr ahd ent : Array Value} (s : St w wc hdr ahd #[.string ⟨#[]⟩, .string ⟨#[]⟩, .int .i64 0, .int .i64 0, .int .i64 0, .int .i64 0, .int .i64 0, .int .i64 0, .string ⟨#[]⟩, .string ⟨#[]⟩] ent) (v0 v1 v2 v3 v4 v5 v6 v7 v8 v9 : Value) : St w (World.setCell (World.setCell (World.setCell (World.setCell (World.setCell (World.setCell (World.setCell (World.setCell (World.setCell (World.setCell wc ⟨w.heap.size + 1 + 1, 0, none⟩ v0) ⟨w.heap.size + 1 + 1, 1, none⟩ v1) ⟨w.heap.size + 1 + 1, 2, none⟩ v2) ⟨w.heap.size + 1 + 1, 3, none⟩ v3) ⟨w.heap.size + 1 + 1, 4, none⟩ v4) ⟨w.heap.size + 1 + 1, 5, none⟩ v5) ⟨w.heap.size + 1 + 1, 6, none⟩ v6) ⟨w.heap.size + 1 + 1, 7, none⟩ v7) ⟨w.heap.size + 1 + 1, 8, none⟩ v8) ⟨w.heap.size + 1 + 1, 9, none⟩ v9) hdr ahd #[v0, v1, v2, v3, v4, v5, v6, v7, v8, v9] ent := by
  have h := (((((((((s.setR 0 v0).setR 1 v1).setR 2 v2).setR 3 v3).setR 4 v4).setR 5 v5).setR 6 v6).setR 7 v7).setR 8 v8).setR 9 v9
  simpa using h
theorem make_rets {w wc : World} {hdr ahd ent tmps : Array Value} {V : Value} (s : St w wc hdr ahd #[.string ⟨#[]⟩, .string ⟨#[]⟩, .int .i64 0, .int .i64 0, .int .i64 0, .int .i64 0, .int .i64 0, .int .i64 0, .string ⟨#[]⟩, .string ⟨#[]⟩] ent) (v0 v1 v2 v3 v4 v5 v6 v7 v8 v9 u : Value) (hp : tmps.getD 4 undef = .pointer (some ⟨w.heap.size + 1 + 1, 0, none⟩)) (hu : tmps.getD 5 undef = u)
    (hV : V = .tuple #[.agg #[v0, v1, v2, v3, v4, v5, v6, v7, v8, v9], u]) : bodyPost Tryz.prog Tryz.f95 (Gives V w) .ret { tmps := tmps, defers := [] } (World.setCell (World.setCell (World.setCell (World.setCell (World.setCell (World.setCell (World.setCell (World.setCell (World.setCell (World.setCell wc ⟨w.heap.size + 1 + 1, 0, none⟩ v0) ⟨w.heap.size + 1 + 1, 1, none⟩ v1) ⟨w.heap.size + 1 + 1, 2, none⟩ v2) ⟨w.heap.size + 1 + 1, 3, none⟩ v3) ⟨w.heap.size + 1 + 1, 4, none⟩ v4) ⟨w.heap.size + 1 + 1, 5, none⟩ v5) ⟨w.heap.size + 1 + 1, 6, none⟩ v6) ⟨w.heap.size + 1 + 1, 7, none⟩ v7) ⟨w.heap.size + 1 + 1, 8, none⟩ v8) ⟨w.heap.size + 1 + 1, 9, none⟩ v9) :=
  make_ret (s.rets v0 v1 v2 v3 v4 v5 v6 v7 v8 v9) hp rfl (by rw [hu]; exact hV)
end Go.Proofs.YtpbpfngichfgeaaGreatDoor

namespace Go.Proofs.YtpbpfngichfgeaaGreatDoor
open Go.RowKit

def finV (md : Int) (path user group : ByteArray) (uid gid mt k s : Int) (l : ByteArray) : Value := if s < 0 ∨ uid < 0 ∨ gid < 0 then .tuple #[.agg #[.string ⟨#[]⟩, .string ⟨#[]⟩, .int .i64 0, .int .i64 0, .int .i64 0, .int .i64 0, .int .i64 0, .int .i64 0, .string ⟨#[]⟩, .string ⟨#[]⟩], .int .i64 90] else .tuple #[.agg #[.string path, .string l, .int .i64 k, .int .i64 md, .int .i64 uid, .int .i64 gid, .int .i64 mt, .int .i64 s, .string user, .string group], .int .i64 0]
def madeV (k form md : Int) (path link user group : ByteArray) (q0 q1 q2 q3 : Option Int) : Value := match q0, q1, q2, q3 with
  | some sz, some uid, some gid, some mt => if k = 1 then if form = 0 ∧ Lib.hasSuffix path.data.toList [47] = true then finV md path user group uid gid mt 4 0 ⟨#[]⟩ else finV md path user group uid gid mt 1 sz ⟨#[]⟩ else if k = 4 then finV md path user group uid gid mt 4 0 ⟨#[]⟩ else finV md path user group uid gid mt k 0 link
  | _, _, _, _ => .tuple #[.agg #[.string ⟨#[]⟩, .string ⟨#[]⟩, .int .i64 0, .int .i64 0, .int .i64 0, .int .i64 0, .int .i64 0, .int .i64 0, .string ⟨#[]⟩, .string ⟨#[]⟩], .int .i64 70]
set_option maxHeartbeats 20000000 in
theorem make_walk (form : Int) (name link pre user group : ByteArray) (typ mode uid gid size mtime : Int) (g l : List Rec) (Ag Al : Option Addr) (cg cl : Nat) (nm lk : ByteArray) (w : World) (hg : Recs w Ag g) (hl : Recs w Al l) (lg : g.length ≤ 1000000) (ll : l.length ≤ 1000000) (hfull : pre.size + name.size ≤ 4611686018427387904) (K : Int) (hK : kindOf typ = K) (hk : (K == 0) = false) (hkc : K = 1 ∨ K = 2 ∨ K = 3 ∨ K = 4) (hsz : ∀ key, (lookup g l key).size ≤ 281474976710656) (he : EnvE w) (hpath : (textOf g l ⟨#[112, 97, 116, 104]⟩ nm (fullOf name pre)).size ≤ 9223372036854775807) (V : Value) (hV : V = madeV K form (bits .and .i64 mode 4095) (textOf g l ⟨#[112, 97, 116, 104]⟩ nm (fullOf name pre)) (textOf g l ⟨#[108, 105, 110, 107, 112, 97, 116, 104]⟩ lk link) (textOf g l ⟨#[117, 110, 97, 109, 101]⟩ ⟨#[]⟩ user) (textOf g l ⟨#[103, 110, 97, 109, 101]⟩ ⟨#[]⟩ group) (numOf g l ⟨#[115, 105, 122, 101]⟩ size) (numOf g l ⟨#[117, 105, 100]⟩ uid) (numOf g l ⟨#[103, 105, 100]⟩ gid) (numOf g l ⟨#[109, 116, 105, 109, 101]⟩ mtime)) :
    Calls Tryz.prog 95 #[.agg #[.int .i64 form, .string name, .string link, .string pre, .string user, .string group, .int .u8 typ, .int .i64 mode, .int .i64 uid, .int .i64 gid, .int .i64 size, .int .i64 mtime], .agg #[.slice Ag g.length cg, .slice Al l.length cl, .string nm, .string lk]] w (Gives V w) := by
  have HS0 := Lib.hid (St.first w #[.int .i64 form, .string name, .string link, .string pre, .string user, .string group, .int .u8 typ, .int .i64 mode, .int .i64 uid, .int .i64 gid, .int .i64 size, .int .i64 mtime] #[.slice Ag g.length cg, .slice Al l.length cl, .string nm, .string lk] #[.string ⟨#[]⟩, .string ⟨#[]⟩, .int .i64 0, .int .i64 0, .int .i64 0, .int .i64 0, .int .i64 0, .int .i64 0, .string ⟨#[]⟩, .string ⟨#[]⟩] #[.string ⟨#[]⟩, .string ⟨#[]⟩, .int .i64 K, .int .i64 ((bits .and .i64 mode 4095)), .int .i64 0, .int .i64 0, .int .i64 0, .int .i64 0, .string ⟨#[]⟩, .string ⟨#[]⟩])
  have HG := Lib.hid hg
  have HL := Lib.hid hl
  have HSA : Hid (∀ w' res ent, St w w' #[.int .i64 form, .string name, .string link, .string pre, .string user, .string group, .int .u8 typ, .int .i64 mode, .int .i64 uid, .int .i64 gid, .int .i64 size, .int .i64 mtime] #[.slice Ag g.length cg, .slice Al l.length cl, .string nm, .string lk] res ent → w'.cell? ⟨w.heap.size, 0, none⟩ = some (.int .i64 form) ∧ w'.cell? ⟨w.heap.size, 1, none⟩ = some (.string name) ∧ w'.cell? ⟨w.heap.size, 2, none⟩ = some (.string link) ∧ w'.cell? ⟨w.heap.size, 3, none⟩ = some (.string pre) ∧ w'.cell? ⟨w.heap.size, 4, none⟩ = some (.string user) ∧ w'.cell? ⟨w.heap.size, 5, none⟩ = some (.string group) ∧ w'.cell? ⟨w.heap.size, 6, none⟩ = some (.int .u8 typ) ∧ w'.cell? ⟨w.heap.size, 7, none⟩ = some (.int .i64 mode) ∧ w'.cell? ⟨w.heap.size, 8, none⟩ = some (.int .i64 uid) ∧ w'.cell? ⟨w.heap.size, 9, none⟩ = some (.int .i64 gid) ∧ w'.cell? ⟨w.heap.size, 10, none⟩ = some (.int .i64 size) ∧ w'.cell? ⟨w.heap.size, 11, none⟩ = some (.int .i64 mtime) ∧ w'.cell? ⟨w.heap.size + 1, 0, none⟩ = some (.slice Ag g.length cg) ∧ w'.cell? ⟨w.heap.size + 1, 1, none⟩ = some (.slice Al l.length cl) ∧ w'.cell? ⟨w.heap.size + 1, 2, none⟩ = some (.string nm) ∧ w'.cell? ⟨w.heap.size + 1, 3, none⟩ = some (.string lk)) := fun _ _ _ s => s.args
  have HSZ := Lib.hid hsz; have HE := Lib.hid he
  have HV := Lib.hid hV
  clear hg hl hsz he hV
  go_enter Tryz.func95, Tryz.ntmps95
  go_wp2_with fail
  refine (kind_any typ _).mono ?_
  rw [hK]
  rintro e w1 ⟨rfl, rfl⟩
  go_wp2_with fail
  have s1 : St w _ #[.int .i64 form, .string name, .string link, .string pre, .string user, .string group, .int .u8 typ, .int .i64 mode, .int .i64 uid, .int .i64 gid, .int .i64 size, .int .i64 mtime] #[.slice Ag g.length cg, .slice Al l.length cl, .string nm, .string lk] #[.string ⟨#[]⟩, .string ⟨#[]⟩, .int .i64 0, .int .i64 0, .int .i64 0, .int .i64 0, .int .i64 0, .int .i64 0, .string ⟨#[]⟩, .string ⟨#[]⟩] #[.string ⟨#[]⟩, .string ⟨#[]⟩, .int .i64 K, .int .i64 ((bits .and .i64 mode 4095)), .int .i64 0, .int .i64 0, .int .i64 0, .int .i64 0, .string ⟨#[]⟩, .string ⟨#[]⟩] := HS0.out.drew
  go_region_held3 (fun w' => w'.cell? ⟨w.heap.size, 0, none⟩ = some (.int .i64 form) ∧ w'.cell? ⟨w.heap.size, 1, none⟩ = some (.string name) ∧ w'.cell? ⟨w.heap.size, 2, none⟩ = some (.string link) ∧ w'.cell? ⟨w.heap.size, 3, none⟩ = some (.string pre) ∧ w'.cell? ⟨w.heap.size, 4, none⟩ = some (.string user) ∧ w'.cell? ⟨w.heap.size, 5, none⟩ = some (.string group) ∧ w'.cell? ⟨w.heap.size, 6, none⟩ = some (.int .u8 typ) ∧ w'.cell? ⟨w.heap.size, 7, none⟩ = some (.int .i64 mode) ∧ w'.cell? ⟨w.heap.size, 8, none⟩ = some (.int .i64 uid) ∧ w'.cell? ⟨w.heap.size, 9, none⟩ = some (.int .i64 gid) ∧ w'.cell? ⟨w.heap.size, 10, none⟩ = some (.int .i64 size) ∧ w'.cell? ⟨w.heap.size, 11, none⟩ = some (.int .i64 mtime) ∧ w'.cell? ⟨w.heap.size + 1, 0, none⟩ = some (.slice Ag g.length cg) ∧ w'.cell? ⟨w.heap.size + 1, 1, none⟩ = some (.slice Al l.length cl) ∧ w'.cell? ⟨w.heap.size + 1, 2, none⟩ = some (.string nm) ∧ w'.cell? ⟨w.heap.size + 1, 3, none⟩ = some (.string lk)) (exact HSA.out _ _ _ (by assumption)) (first | (go_at_call 110; refine (full_any form name link pre user group typ mode uid gid size mtime hfull _).mono ?_; rintro e w2 ⟨rfl, hb2⟩; have s2 := HS0.out.drew.next hb2) | (go_at_call 109; refine (aheadText_any g l Ag Al cg cl nm lk ⟨#[112, 97, 116, 104]⟩ _ _ _ (HG.out.below s2.b) (HL.out.below s2.b) lg ll).mono ?_; rintro e w3 ⟨rfl, hb_w3⟩; have s3 := s2.next hb_w3; obtain ⟨e0, e1, e2, e3, e4, e5, e6, e7, e8, e9⟩ := s3.ents; obtain ⟨f0, f1, f2, f3, f4, f5, f6, f7, f8, f9⟩ := s3.entsf; have s4 : St w _ #[.int .i64 form, .string name, .string link, .string pre, .string user, .string group, .int .u8 typ, .int .i64 mode, .int .i64 uid, .int .i64 gid, .int .i64 size, .int .i64 mtime] #[.slice Ag g.length cg, .slice Al l.length cl, .string nm, .string lk] #[.string ⟨#[]⟩, .string ⟨#[]⟩, .int .i64 0, .int .i64 0, .int .i64 0, .int .i64 0, .int .i64 0, .int .i64 0, .string ⟨#[]⟩, .string ⟨#[]⟩] #[.string (textOf g l ⟨#[112, 97, 116, 104]⟩ nm (fullOf name pre)), .string ⟨#[]⟩, .int .i64 K, .int .i64 ((bits .and .i64 mode 4095)), .int .i64 0, .int .i64 0, .int .i64 0, .int .i64 0, .string ⟨#[]⟩, .string ⟨#[]⟩] := s3.setE 0 (.string (textOf g l ⟨#[112, 97, 116, 104]⟩ nm (fullOf name pre)))))
  clear e0 e1 e2 e3 e4 e5 e6 e7 e8 e9 f0 f1 f2 f3 f4 f5 f6 f7 f8 f9
  generalize hgen_w5 : World.setCell w3 ⟨w.heap.size + 1 + 1 + 1, 0, none⟩ (.string (textOf g l ⟨#[112, 97, 116, 104]⟩ nm (fullOf name pre))) = w5 at s4 ⊢
  clear hgen_w5
  clear s1 s2 s3
  obtain ⟨h0, h1, h2, h3, h4, h5, h6, h7, h8, h9, h10, h11, a0, a1, a2, a3⟩ := s4.args; obtain ⟨e0, e1, e2, e3, e4, e5, e6, e7, e8, e9⟩ := s4.ents; obtain ⟨f0, f1, f2, f3, f4, f5, f6, f7, f8, f9⟩ := s4.entsf
  go_wp2_with fail
  refine (aheadText_any g l Ag Al cg cl nm lk ⟨#[108, 105, 110, 107, 112, 97, 116, 104]⟩ _ _ _ (HG.out.below s4.b) (HL.out.below s4.b) lg ll).mono ?_
  rintro e w6 ⟨rfl, hb6⟩
  clear h0 h1 h2 h3 h4 h5 h6 h7 h8 h9 h10 h11 a0 a1 a2 a3 e0 e1 e2 e3 e4 e5 e6 e7 e8 e9 f0 f1 f2 f3 f4 f5 f6 f7 f8 f9
  have s6 := s4.next hb6
  obtain ⟨e0, e1, e2, e3, e4, e5, e6, e7, e8, e9⟩ := s6.ents; obtain ⟨f0, f1, f2, f3, f4, f5, f6, f7, f8, f9⟩ := s6.entsf
  have s7 : St w _ #[.int .i64 form, .string name, .string link, .string pre, .string user, .string group, .int .u8 typ, .int .i64 mode, .int .i64 uid, .int .i64 gid, .int .i64 size, .int .i64 mtime] #[.slice Ag g.length cg, .slice Al l.length cl, .string nm, .string lk] #[.string ⟨#[]⟩, .string ⟨#[]⟩, .int .i64 0, .int .i64 0, .int .i64 0, .int .i64 0, .int .i64 0, .int .i64 0, .string ⟨#[]⟩, .string ⟨#[]⟩] #[.string (textOf g l ⟨#[112, 97, 116, 104]⟩ nm (fullOf name pre)), .string (textOf g l ⟨#[108, 105, 110, 107, 112, 97, 116, 104]⟩ lk link), .int .i64 K, .int .i64 ((bits .and .i64 mode 4095)), .int .i64 0, .int .i64 0, .int .i64 0, .int .i64 0, .string ⟨#[]⟩, .string ⟨#[]⟩] := s6.setE 1 (.string (textOf g l ⟨#[108, 105, 110, 107, 112, 97, 116, 104]⟩ lk link))
  go_wp2_with fail
  clear e0 e1 e2 e3 e4 e5 e6 e7 e8 e9 f0 f1 f2 f3 f4 f5 f6 f7 f8 f9
  generalize hgen_w8 : World.setCell w6 ⟨w.heap.size + 1 + 1 + 1, 1, none⟩ (.string (textOf g l ⟨#[108, 105, 110, 107, 112, 97, 116, 104]⟩ lk link)) = w8 at s7 ⊢
  clear hgen_w8
  clear s4 s6
  have s8 : St w _ #[.int .i64 form, .string name, .string link, .string pre, .string user, .string group, .int .u8 typ, .int .i64 mode, .int .i64 uid, .int .i64 gid, .int .i64 size, .int .i64 mtime] #[.slice Ag g.length cg, .slice Al l.length cl, .string nm, .string lk] #[.string ⟨#[]⟩, .string ⟨#[]⟩, .int .i64 0, .int .i64 0, .int .i64 0, .int .i64 0, .int .i64 0, .int .i64 0, .string ⟨#[]⟩, .string ⟨#[]⟩] #[.string (textOf g l ⟨#[112, 97, 116, 104]⟩ nm (fullOf name pre)), .string (textOf g l ⟨#[108, 105, 110, 107, 112, 97, 116, 104]⟩ lk link), .int .i64 K, .int .i64 ((bits .and .i64 mode 4095)), .int .i64 0, .int .i64 0, .int .i64 0, .int .i64 0, .string ⟨#[]⟩, .string ⟨#[]⟩] := s7.drew
  go_region_held3 (fun w' => w'.cell? ⟨w.heap.size, 0, none⟩ = some (.int .i64 form) ∧ w'.cell? ⟨w.heap.size, 1, none⟩ = some (.string name) ∧ w'.cell? ⟨w.heap.size, 2, none⟩ = some (.string link) ∧ w'.cell? ⟨w.heap.size, 3, none⟩ = some (.string pre) ∧ w'.cell? ⟨w.heap.size, 4, none⟩ = some (.string user) ∧ w'.cell? ⟨w.heap.size, 5, none⟩ = some (.string group) ∧ w'.cell? ⟨w.heap.size, 6, none⟩ = some (.int .u8 typ) ∧ w'.cell? ⟨w.heap.size, 7, none⟩ = some (.int .i64 mode) ∧ w'.cell? ⟨w.heap.size, 8, none⟩ = some (.int .i64 uid) ∧ w'.cell? ⟨w.heap.size, 9, none⟩ = some (.int .i64 gid) ∧ w'.cell? ⟨w.heap.size, 10, none⟩ = some (.int .i64 size) ∧ w'.cell? ⟨w.heap.size, 11, none⟩ = some (.int .i64 mtime) ∧ w'.cell? ⟨w.heap.size + 1, 0, none⟩ = some (.slice Ag g.length cg) ∧ w'.cell? ⟨w.heap.size + 1, 1, none⟩ = some (.slice Al l.length cl) ∧ w'.cell? ⟨w.heap.size + 1, 2, none⟩ = some (.string nm) ∧ w'.cell? ⟨w.heap.size + 1, 3, none⟩ = some (.string lk)) (exact HSA.out _ _ _ (by assumption)) (first | (go_at_call 109; (with_reducible refine (aheadText_any g l Ag Al cg cl nm lk ⟨#[117, 110, 97, 109, 101]⟩ _ _ _ (HG.out.below s8.b) (HL.out.below s8.b) lg ll).mono ?_); rintro e w9 ⟨rfl, hb_w9⟩; have s9 := s8.next hb_w9) | (go_at_call 109; (with_reducible refine (aheadText_any g l Ag Al cg cl nm lk ⟨#[103, 110, 97, 109, 101]⟩ _ _ _ (HG.out.below s9.b) (HL.out.below s9.b) lg ll).mono ?_); rintro e w10 ⟨rfl, hb_w10⟩; have s10 := s9.next hb_w10; obtain ⟨e0, e1, e2, e3, e4, e5, e6, e7, e8, e9⟩ := s10.ents; obtain ⟨f0, f1, f2, f3, f4, f5, f6, f7, f8, f9⟩ := s10.entsf; have s11 : St w _ #[.int .i64 form, .string name, .string link, .string pre, .string user, .string group, .int .u8 typ, .int .i64 mode, .int .i64 uid, .int .i64 gid, .int .i64 size, .int .i64 mtime] #[.slice Ag g.length cg, .slice Al l.length cl, .string nm, .string lk] #[.string ⟨#[]⟩, .string ⟨#[]⟩, .int .i64 0, .int .i64 0, .int .i64 0, .int .i64 0, .int .i64 0, .int .i64 0, .string ⟨#[]⟩, .string ⟨#[]⟩] #[.string (textOf g l ⟨#[112, 97, 116, 104]⟩ nm (fullOf name pre)), .string (textOf g l ⟨#[108, 105, 110, 107, 112, 97, 116, 104]⟩ lk link), .int .i64 K, .int .i64 ((bits .and .i64 mode 4095)), .int .i64 0, .int .i64 0, .int .i64 0, .int .i64 0, .string (textOf g l ⟨#[117, 110, 97, 109, 101]⟩ ⟨#[]⟩ user), .string ⟨#[]⟩] := s10.setE 8 (.string (textOf g l ⟨#[117, 110, 97, 109, 101]⟩ ⟨#[]⟩ user)); have s12 : St w _ #[.int .i64 form, .string name, .string link, .string pre, .string user, .string group, .int .u8 typ, .int .i64 mode, .int .i64 uid, .int .i64 gid, .int .i64 size, .int .i64 mtime] #[.slice Ag g.length cg, .slice Al l.length cl, .string nm, .string lk] #[.string ⟨#[]⟩, .string ⟨#[]⟩, .int .i64 0, .int .i64 0, .int .i64 0, .int .i64 0, .int .i64 0, .int .i64 0, .string ⟨#[]⟩, .string ⟨#[]⟩] #[.string (textOf g l ⟨#[112, 97, 116, 104]⟩ nm (fullOf name pre)), .string (textOf g l ⟨#[108, 105, 110, 107, 112, 97, 116, 104]⟩ lk link), .int .i64 K, .int .i64 ((bits .and .i64 mode 4095)), .int .i64 0, .int .i64 0, .int .i64 0, .int .i64 0, .string (textOf g l ⟨#[117, 110, 97, 109, 101]⟩ ⟨#[]⟩ user), .string (textOf g l ⟨#[103, 110, 97, 109, 101]⟩ ⟨#[]⟩ group)] := s11.setE 9 (.string (textOf g l ⟨#[103, 110, 97, 109, 101]⟩ ⟨#[]⟩ group))))
  clear e0 e1 e2 e3 e4 e5 e6 e7 e8 e9 f0 f1 f2 f3 f4 f5 f6 f7 f8 f9
  generalize hgen_w12 : World.setCell (World.setCell w10 ⟨w.heap.size + 1 + 1 + 1, 8, none⟩ (.string (textOf g l ⟨#[117, 110, 97, 109, 101]⟩ ⟨#[]⟩ user))) ⟨w.heap.size + 1 + 1 + 1, 9, none⟩ (.string (textOf g l ⟨#[103, 110, 97, 109, 101]⟩ ⟨#[]⟩ group)) = w12 at s12 ⊢
  clear hgen_w12
  clear s7 s8 s9 s10 s11
  obtain ⟨h0, h1, h2, h3, h4, h5, h6, h7, h8, h9, h10, h11, a0, a1, a2, a3⟩ := s12.args
  go_wp2_with fail
  have lb0 : Blk (w12.alloc (.cells #[.string ⟨#[115, 105, 122, 101]⟩, .int .i64 size, .pointer (some ⟨w.heap.size + 1 + 1 + 1, 7, none⟩), .string ⟨#[117, 105, 100]⟩, .int .i64 uid, .pointer (some ⟨w.heap.size + 1 + 1 + 1, 4, none⟩), .string ⟨#[103, 105, 100]⟩, .int .i64 gid, .pointer (some ⟨w.heap.size + 1 + 1 + 1, 5, none⟩), .string ⟨#[109, 116, 105, 109, 101]⟩, .int .i64 mtime, .pointer (some ⟨w.heap.size + 1 + 1 + 1, 6, none⟩)] 196)) w12.heap.size 196 #[.string ⟨#[115, 105, 122, 101]⟩, .int .i64 size, .pointer (some ⟨w.heap.size + 1 + 1 + 1, 7, none⟩), .string ⟨#[117, 105, 100]⟩, .int .i64 uid, .pointer (some ⟨w.heap.size + 1 + 1 + 1, 4, none⟩), .string ⟨#[103, 105, 100]⟩, .int .i64 gid, .pointer (some ⟨w.heap.size + 1 + 1 + 1, 5, none⟩), .string ⟨#[109, 116, 105, 109, 101]⟩, .int .i64 mtime, .pointer (some ⟨w.heap.size + 1 + 1 + 1, 6, none⟩)] := Blk.new _ _ _
  have sB0 := s12.alloc (.cells #[.string ⟨#[115, 105, 122, 101]⟩, .int .i64 size, .pointer (some ⟨w.heap.size + 1 + 1 + 1, 7, none⟩), .string ⟨#[117, 105, 100]⟩, .int .i64 uid, .pointer (some ⟨w.heap.size + 1 + 1 + 1, 4, none⟩), .string ⟨#[103, 105, 100]⟩, .int .i64 gid, .pointer (some ⟨w.heap.size + 1 + 1 + 1, 5, none⟩), .string ⟨#[109, 116, 105, 109, 101]⟩, .int .i64 mtime, .pointer (some ⟨w.heap.size + 1 + 1 + 1, 6, none⟩)] 196)
  have hlt := s12.e.lt
  generalize hgen_wB : w12.alloc (.cells #[.string ⟨#[115, 105, 122, 101]⟩, .int .i64 size, .pointer (some ⟨w.heap.size + 1 + 1 + 1, 7, none⟩), .string ⟨#[117, 105, 100]⟩, .int .i64 uid, .pointer (some ⟨w.heap.size + 1 + 1 + 1, 4, none⟩), .string ⟨#[103, 105, 100]⟩, .int .i64 gid, .pointer (some ⟨w.heap.size + 1 + 1 + 1, 5, none⟩), .string ⟨#[109, 116, 105, 109, 101]⟩, .int .i64 mtime, .pointer (some ⟨w.heap.size + 1 + 1 + 1, 6, none⟩)] 196) = wB at lb0 sB0 ⊢
  clear hgen_wB
  generalize hgen_LB : w12.heap.size = LB at lb0 hlt ⊢
  clear hgen_LB s12
  clear h0 h1 h2 h3 h4 h5 h6 h7 h8 h9 h10 h11 a0 a1 a2 a3
  refine wp_loop_rounds 5 ?_
  have lc0 := lb0.cell 0
  have lc1 := lb0.cell 1
  have lc2 := lb0.cell 2
  have i4 := lb0.lt
  have sc0 := sB0.alloc (.cells #[.string ⟨#[115, 105, 122, 101]⟩, .int .i64 size, .pointer (some ⟨w.heap.size + 1 + 1 + 1, 7, none⟩)] 196)
  have ld0 : Blk (wB.alloc (.cells #[.string ⟨#[115, 105, 122, 101]⟩, .int .i64 size, .pointer (some ⟨w.heap.size + 1 + 1 + 1, 7, none⟩)] 196)) LB 196 #[.string ⟨#[115, 105, 122, 101]⟩, .int .i64 size, .pointer (some ⟨w.heap.size + 1 + 1 + 1, 7, none⟩), .string ⟨#[117, 105, 100]⟩, .int .i64 uid, .pointer (some ⟨w.heap.size + 1 + 1 + 1, 4, none⟩), .string ⟨#[103, 105, 100]⟩, .int .i64 gid, .pointer (some ⟨w.heap.size + 1 + 1 + 1, 5, none⟩), .string ⟨#[109, 116, 105, 109, 101]⟩, .int .i64 mtime, .pointer (some ⟨w.heap.size + 1 + 1 + 1, 6, none⟩)] := lb0.alloc _
  obtain ⟨h0, h1, h2, h3, h4, h5, h6, h7, h8, h9, h10, h11, a0, a1, a2, a3⟩ := sc0.args; obtain ⟨e0, e1, e2, e3, e4, e5, e6, e7, e8, e9⟩ := sc0.ents; obtain ⟨f0, f1, f2, f3, f4, f5, f6, f7, f8, f9⟩ := sc0.entsf
  rw [rounds_succ]
  go_wp2_with fail
  have fb0 : Blk (wB.alloc (.cells #[.string ⟨#[115, 105, 122, 101]⟩, .int .i64 size, .pointer (some ⟨w.heap.size + 1 + 1 + 1, 7, none⟩)] 196)) wB.heap.size 196 #[.string ⟨#[115, 105, 122, 101]⟩, .int .i64 size, .pointer (some ⟨w.heap.size + 1 + 1 + 1, 7, none⟩)] := Blk.new _ _ _
  refine (aheadNumber_any g l Ag Al cg cl nm lk ⟨#[115, 105, 122, 101]⟩ size _ (HG.out.below sc0.b) (HL.out.below sc0.b) lg ll (HSZ.out _) (HE.out.below sc0.b)).mono ?_
  rintro e wn0 ⟨rfl, hbn0⟩
  have sn0 := sc0.next hbn0
  have fc0 := (fb0.below hbn0 fb0.lt).cell 2; clear fb0
  have le0 := ld0.below hbn0 ld0.lt
  clear h0 h1 h2 h3 h4 h5 h6 h7 h8 h9 h10 h11 a0 a1 a2 a3 e0 e1 e2 e3 e4 e5 e6 e7 e8 e9 f0 f1 f2 f3 f4 f5 f6 f7 f8 f9 lc0 lc1 lc2 i4
  clear sB0 lb0 sc0 ld0 hbn0
  obtain ⟨h0, h1, h2, h3, h4, h5, h6, h7, h8, h9, h10, h11, a0, a1, a2, a3⟩ := sn0.args; obtain ⟨e0, e1, e2, e3, e4, e5, e6, e7, e8, e9⟩ := sn0.ents; obtain ⟨f0, f1, f2, f3, f4, f5, f6, f7, f8, f9⟩ := sn0.entsf
  have i0 := sn0.h.lt; have i1 := sn0.a.lt; have i2 := sn0.r.lt; have i3 := sn0.e.lt; have i4 := le0.lt
  obtain ⟨q0, hq0⟩ : ∃ q, numOf g l ⟨#[115, 105, 122, 101]⟩ size = q := ⟨_, rfl⟩
  rw [hq0]; have HQ0 := Lib.hid hq0; clear hq0
  rcases q0 with _ | n0
  · (obtain ⟨r0, r1, r2, r3, r4, r5, r6, r7, r8, r9⟩ := sn0.ress; obtain ⟨rf0, rf1, rf2, rf3, rf4, rf5, rf6, rf7, rf8, rf9⟩ := sn0.ressf; dsimp only [numV]; go_wp2_with fail; (try simp only [Exit.inBlock, Exit.then]); (refine make_rets sn0 _ _ _ _ _ _ _ _ _ _ _ rfl rfl ?_); (rw [HV.out, HQ0.out]; rfl))
  dsimp only [numV]
  go_wp2_with fail
  have st0 : St w _ #[.int .i64 form, .string name, .string link, .string pre, .string user, .string group, .int .u8 typ, .int .i64 mode, .int .i64 uid, .int .i64 gid, .int .i64 size, .int .i64 mtime] #[.slice Ag g.length cg, .slice Al l.length cl, .string nm, .string lk] #[.string ⟨#[]⟩, .string ⟨#[]⟩, .int .i64 0, .int .i64 0, .int .i64 0, .int .i64 0, .int .i64 0, .int .i64 0, .string ⟨#[]⟩, .string ⟨#[]⟩] #[.string (textOf g l ⟨#[112, 97, 116, 104]⟩ nm (fullOf name pre)), .string (textOf g l ⟨#[108, 105, 110, 107, 112, 97, 116, 104]⟩ lk link), .int .i64 K, .int .i64 ((bits .and .i64 mode 4095)), .int .i64 0, .int .i64 0, .int .i64 0, .int .i64 n0, .string (textOf g l ⟨#[117, 110, 97, 109, 101]⟩ ⟨#[]⟩ user), .string (textOf g l ⟨#[103, 110, 97, 109, 101]⟩ ⟨#[]⟩ group)] := sn0.setE 7 (.int .i64 n0)
  have lf0 : Blk _ LB 196 #[.string ⟨#[115, 105, 122, 101]⟩, .int .i64 size, .pointer (some ⟨w.heap.size + 1 + 1 + 1, 7, none⟩), .string ⟨#[117, 105, 100]⟩, .int .i64 uid, .pointer (some ⟨w.heap.size + 1 + 1 + 1, 4, none⟩), .string ⟨#[103, 105, 100]⟩, .int .i64 gid, .pointer (some ⟨w.heap.size + 1 + 1 + 1, 5, none⟩), .string ⟨#[109, 116, 105, 109, 101]⟩, .int .i64 mtime, .pointer (some ⟨w.heap.size + 1 + 1 + 1, 6, none⟩)] := le0.far (p := ⟨w.heap.size + 1 + 1 + 1, 7, none⟩) (by simp; omega) (.int .i64 n0)
  generalize hgen_w : World.setCell wn0 ⟨w.heap.size + 1 + 1 + 1, 7, none⟩ (.int .i64 n0) = wd0 at st0 lf0 ⊢
  clear h0 h1 h2 h3 h4 h5 h6 h7 h8 h9 h10 h11 a0 a1 a2 a3 e0 e1 e2 e3 e4 e5 e6 e7 e8 e9 f0 f1 f2 f3 f4 f5 f6 f7 f8 f9 i0 i1 i2 i3 i4 hgen_w sn0 le0 fc0
  have lc3 := lf0.cell 3
  have lc4 := lf0.cell 4
  have lc5 := lf0.cell 5
  have i4 := lf0.lt
  have sc1 := st0.alloc (.cells #[.string ⟨#[117, 105, 100]⟩, .int .i64 uid, .pointer (some ⟨w.heap.size + 1 + 1 + 1, 4, none⟩)] 196)
  have ld1 : Blk (wd0.alloc (.cells #[.string ⟨#[117, 105, 100]⟩, .int .i64 uid, .pointer (some ⟨w.heap.size + 1 + 1 + 1, 4, none⟩)] 196)) LB 196 #[.string ⟨#[115, 105, 122, 101]⟩, .int .i64 size, .pointer (some ⟨w.heap.size + 1 + 1 + 1, 7, none⟩), .string ⟨#[117, 105, 100]⟩, .int .i64 uid, .pointer (some ⟨w.heap.size + 1 + 1 + 1, 4, none⟩), .string ⟨#[103, 105, 100]⟩, .int .i64 gid, .pointer (some ⟨w.heap.size + 1 + 1 + 1, 5, none⟩), .string ⟨#[109, 116, 105, 109, 101]⟩, .int .i64 mtime, .pointer (some ⟨w.heap.size + 1 + 1 + 1, 6, none⟩)] := lf0.alloc _
  obtain ⟨h0, h1, h2, h3, h4, h5, h6, h7, h8, h9, h10, h11, a0, a1, a2, a3⟩ := sc1.args; obtain ⟨e0, e1, e2, e3, e4, e5, e6, e7, e8, e9⟩ := sc1.ents; obtain ⟨f0, f1, f2, f3, f4, f5, f6, f7, f8, f9⟩ := sc1.entsf
  rw [rounds_succ]
  go_wp2_with fail
  have fb1 : Blk (wd0.alloc (.cells #[.string ⟨#[117, 105, 100]⟩, .int .i64 uid, .pointer (some ⟨w.heap.size + 1 + 1 + 1, 4, none⟩)] 196)) wd0.heap.size 196 #[.string ⟨#[117, 105, 100]⟩, .int .i64 uid, .pointer (some ⟨w.heap.size + 1 + 1 + 1, 4, none⟩)] := Blk.new _ _ _
  refine (aheadNumber_any g l Ag Al cg cl nm lk ⟨#[117, 105, 100]⟩ uid _ (HG.out.below sc1.b) (HL.out.below sc1.b) lg ll (HSZ.out _) (HE.out.below sc1.b)).mono ?_
  rintro e wn1 ⟨rfl, hbn1⟩
  have sn1 := sc1.next hbn1
  have fc1 := (fb1.below hbn1 fb1.lt).cell 2; clear fb1
  have le1 := ld1.below hbn1 ld1.lt
  clear h0 h1 h2 h3 h4 h5 h6 h7 h8 h9 h10 h11 a0 a1 a2 a3 e0 e1 e2 e3 e4 e5 e6 e7 e8 e9 f0 f1 f2 f3 f4 f5 f6 f7 f8 f9 lc3 lc4 lc5 i4
  clear st0 lf0 sc1 ld1 hbn1
  obtain ⟨h0, h1, h2, h3, h4, h5, h6, h7, h8, h9, h10, h11, a0, a1, a2, a3⟩ := sn1.args; obtain ⟨e0, e1, e2, e3, e4, e5, e6, e7, e8, e9⟩ := sn1.ents; obtain ⟨f0, f1, f2, f3, f4, f5, f6, f7, f8, f9⟩ := sn1.entsf
  have i0 := sn1.h.lt; have i1 := sn1.a.lt; have i2 := sn1.r.lt; have i3 := sn1.e.lt; have i4 := le1.lt
  obtain ⟨q1, hq1⟩ : ∃ q, numOf g l ⟨#[117, 105, 100]⟩ uid = q := ⟨_, rfl⟩
  rw [hq1]; have HQ1 := Lib.hid hq1; clear hq1
  rcases q1 with _ | n1
  · (obtain ⟨r0, r1, r2, r3, r4, r5, r6, r7, r8, r9⟩ := sn1.ress; obtain ⟨rf0, rf1, rf2, rf3, rf4, rf5, rf6, rf7, rf8, rf9⟩ := sn1.ressf; dsimp only [numV]; go_wp2_with fail; (try simp only [Exit.inBlock, Exit.then]); (refine make_rets sn1 _ _ _ _ _ _ _ _ _ _ _ rfl rfl ?_); (rw [HV.out, HQ0.out, HQ1.out]; rfl))
  dsimp only [numV]
  go_wp2_with fail
  have st1 : St w _ #[.int .i64 form, .string name, .string link, .string pre, .string user, .string group, .int .u8 typ, .int .i64 mode, .int .i64 uid, .int .i64 gid, .int .i64 size, .int .i64 mtime] #[.slice Ag g.length cg, .slice Al l.length cl, .string nm, .string lk] #[.string ⟨#[]⟩, .string ⟨#[]⟩, .int .i64 0, .int .i64 0, .int .i64 0, .int .i64 0, .int .i64 0, .int .i64 0, .string ⟨#[]⟩, .string ⟨#[]⟩] #[.string (textOf g l ⟨#[112, 97, 116, 104]⟩ nm (fullOf name pre)), .string (textOf g l ⟨#[108, 105, 110, 107, 112, 97, 116, 104]⟩ lk link), .int .i64 K, .int .i64 ((bits .and .i64 mode 4095)), .int .i64 n1, .int .i64 0, .int .i64 0, .int .i64 n0, .string (textOf g l ⟨#[117, 110, 97, 109, 101]⟩ ⟨#[]⟩ user), .string (textOf g l ⟨#[103, 110, 97, 109, 101]⟩ ⟨#[]⟩ group)] := sn1.setE 4 (.int .i64 n1)
  have lf1 : Blk _ LB 196 #[.string ⟨#[115, 105, 122, 101]⟩, .int .i64 size, .pointer (some ⟨w.heap.size + 1 + 1 + 1, 7, none⟩), .string ⟨#[117, 105, 100]⟩, .int .i64 uid, .pointer (some ⟨w.heap.size + 1 + 1 + 1, 4, none⟩), .string ⟨#[103, 105, 100]⟩, .int .i64 gid, .pointer (some ⟨w.heap.size + 1 + 1 + 1, 5, none⟩), .string ⟨#[109, 116, 105, 109, 101]⟩, .int .i64 mtime, .pointer (some ⟨w.heap.size + 1 + 1 + 1, 6, none⟩)] := le1.far (p := ⟨w.heap.size + 1 + 1 + 1, 4, none⟩) (by simp; omega) (.int .i64 n1)
  generalize hgen_w : World.setCell wn1 ⟨w.heap.size + 1 + 1 + 1, 4, none⟩ (.int .i64 n1) = wd1 at st1 lf1 ⊢
  clear h0 h1 h2 h3 h4 h5 h6 h7 h8 h9 h10 h11 a0 a1 a2 a3 e0 e1 e2 e3 e4 e5 e6 e7 e8 e9 f0 f1 f2 f3 f4 f5 f6 f7 f8 f9 i0 i1 i2 i3 i4 hgen_w sn1 le1 fc1
  have lc6 := lf1.cell 6
  have lc7 := lf1.cell 7
  have lc8 := lf1.cell 8
  have i4 := lf1.lt
  have sc2 := st1.alloc (.cells #[.string ⟨#[103, 105, 100]⟩, .int .i64 gid, .pointer (some ⟨w.heap.size + 1 + 1 + 1, 5, none⟩)] 196)
  have ld2 : Blk (wd1.alloc (.cells #[.string ⟨#[103, 105, 100]⟩, .int .i64 gid, .pointer (some ⟨w.heap.size + 1 + 1 + 1, 5, none⟩)] 196)) LB 196 #[.string ⟨#[115, 105, 122, 101]⟩, .int .i64 size, .pointer (some ⟨w.heap.size + 1 + 1 + 1, 7, none⟩), .string ⟨#[117, 105, 100]⟩, .int .i64 uid, .pointer (some ⟨w.heap.size + 1 + 1 + 1, 4, none⟩), .string ⟨#[103, 105, 100]⟩, .int .i64 gid, .pointer (some ⟨w.heap.size + 1 + 1 + 1, 5, none⟩), .string ⟨#[109, 116, 105, 109, 101]⟩, .int .i64 mtime, .pointer (some ⟨w.heap.size + 1 + 1 + 1, 6, none⟩)] := lf1.alloc _
  obtain ⟨h0, h1, h2, h3, h4, h5, h6, h7, h8, h9, h10, h11, a0, a1, a2, a3⟩ := sc2.args; obtain ⟨e0, e1, e2, e3, e4, e5, e6, e7, e8, e9⟩ := sc2.ents; obtain ⟨f0, f1, f2, f3, f4, f5, f6, f7, f8, f9⟩ := sc2.entsf
  rw [rounds_succ]
  go_wp2_with fail
  have fb2 : Blk (wd1.alloc (.cells #[.string ⟨#[103, 105, 100]⟩, .int .i64 gid, .pointer (some ⟨w.heap.size + 1 + 1 + 1, 5, none⟩)] 196)) wd1.heap.size 196 #[.string ⟨#[103, 105, 100]⟩, .int .i64 gid, .pointer (some ⟨w.heap.size + 1 + 1 + 1, 5, none⟩)] := Blk.new _ _ _
  refine (aheadNumber_any g l Ag Al cg cl nm lk ⟨#[103, 105, 100]⟩ gid _ (HG.out.below sc2.b) (HL.out.below sc2.b) lg ll (HSZ.out _) (HE.out.below sc2.b)).mono ?_
  rintro e wn2 ⟨rfl, hbn2⟩
  have sn2 := sc2.next hbn2
  have fc2 := (fb2.below hbn2 fb2.lt).cell 2; clear fb2
  have le2 := ld2.below hbn2 ld2.lt
  clear h0 h1 h2 h3 h4 h5 h6 h7 h8 h9 h10 h11 a0 a1 a2 a3 e0 e1 e2 e3 e4 e5 e6 e7 e8 e9 f0 f1 f2 f3 f4 f5 f6 f7 f8 f9 lc6 lc7 lc8 i4
  clear st1 lf1 sc2 ld2 hbn2
  obtain ⟨h0, h1, h2, h3, h4, h5, h6, h7, h8, h9, h10, h11, a0, a1, a2, a3⟩ := sn2.args; obtain ⟨e0, e1, e2, e3, e4, e5, e6, e7, e8, e9⟩ := sn2.ents; obtain ⟨f0, f1, f2, f3, f4, f5, f6, f7, f8, f9⟩ := sn2.entsf
  have i0 := sn2.h.lt; have i1 := sn2.a.lt; have i2 := sn2.r.lt; have i3 := sn2.e.lt; have i4 := le2.lt
  obtain ⟨q2, hq2⟩ : ∃ q, numOf g l ⟨#[103, 105, 100]⟩ gid = q := ⟨_, rfl⟩
  rw [hq2]; have HQ2 := Lib.hid hq2; clear hq2
  rcases q2 with _ | n2
  · (obtain ⟨r0, r1, r2, r3, r4, r5, r6, r7, r8, r9⟩ := sn2.ress; obtain ⟨rf0, rf1, rf2, rf3, rf4, rf5, rf6, rf7, rf8, rf9⟩ := sn2.ressf; dsimp only [numV]; go_wp2_with fail; (try simp only [Exit.inBlock, Exit.then]); (refine make_rets sn2 _ _ _ _ _ _ _ _ _ _ _ rfl rfl ?_); (rw [HV.out, HQ0.out, HQ1.out, HQ2.out]; rfl))
  dsimp only [numV]
  go_wp2_with fail
  have st2 : St w _ #[.int .i64 form, .string name, .string link, .string pre, .string user, .string group, .int .u8 typ, .int .i64 mode, .int .i64 uid, .int .i64 gid, .int .i64 size, .int .i64 mtime] #[.slice Ag g.length cg, .slice Al l.length cl, .string nm, .string lk] #[.string ⟨#[]⟩, .string ⟨#[]⟩, .int .i64 0, .int .i64 0, .int .i64 0, .int .i64 0, .int .i64 0, .int .i64 0, .string ⟨#[]⟩, .string ⟨#[]⟩] #[.string (textOf g l ⟨#[112, 97, 116, 104]⟩ nm (fullOf name pre)), .string (textOf g l ⟨#[108, 105, 110, 107, 112, 97, 116, 104]⟩ lk link), .int .i64 K, .int .i64 ((bits .and .i64 mode 4095)), .int .i64 n1, .int .i64 n2, .int .i64 0, .int .i64 n0, .string (textOf g l ⟨#[117, 110, 97, 109, 101]⟩ ⟨#[]⟩ user), .string (textOf g l ⟨#[103, 110, 97, 109, 101]⟩ ⟨#[]⟩ group)] := sn2.setE 5 (.int .i64 n2)
  have lf2 : Blk _ LB 196 #[.string ⟨#[115, 105, 122, 101]⟩, .int .i64 size, .pointer (some ⟨w.heap.size + 1 + 1 + 1, 7, none⟩), .string ⟨#[117, 105, 100]⟩, .int .i64 uid, .pointer (some ⟨w.heap.size + 1 + 1 + 1, 4, none⟩), .string ⟨#[103, 105, 100]⟩, .int .i64 gid, .pointer (some ⟨w.heap.size + 1 + 1 + 1, 5, none⟩), .string ⟨#[109, 116, 105, 109, 101]⟩, .int .i64 mtime, .pointer (some ⟨w.heap.size + 1 + 1 + 1, 6, none⟩)] := le2.far (p := ⟨w.heap.size + 1 + 1 + 1, 5, none⟩) (by simp; omega) (.int .i64 n2)
  generalize hgen_w : World.setCell wn2 ⟨w.heap.size + 1 + 1 + 1, 5, none⟩ (.int .i64 n2) = wd2 at st2 lf2 ⊢
  clear h0 h1 h2 h3 h4 h5 h6 h7 h8 h9 h10 h11 a0 a1 a2 a3 e0 e1 e2 e3 e4 e5 e6 e7 e8 e9 f0 f1 f2 f3 f4 f5 f6 f7 f8 f9 i0 i1 i2 i3 i4 hgen_w sn2 le2 fc2
  have lc9 := lf2.cell 9
  have lc10 := lf2.cell 10
  have lc11 := lf2.cell 11
  have i4 := lf2.lt
  have sc3 := st2.alloc (.cells #[.string ⟨#[109, 116, 105, 109, 101]⟩, .int .i64 mtime, .pointer (some ⟨w.heap.size + 1 + 1 + 1, 6, none⟩)] 196)
  have ld3 : Blk (wd2.alloc (.cells #[.string ⟨#[109, 116, 105, 109, 101]⟩, .int .i64 mtime, .pointer (some ⟨w.heap.size + 1 + 1 + 1, 6, none⟩)] 196)) LB 196 #[.string ⟨#[115, 105, 122, 101]⟩, .int .i64 size, .pointer (some ⟨w.heap.size + 1 + 1 + 1, 7, none⟩), .string ⟨#[117, 105, 100]⟩, .int .i64 uid, .pointer (some ⟨w.heap.size + 1 + 1 + 1, 4, none⟩), .string ⟨#[103, 105, 100]⟩, .int .i64 gid, .pointer (some ⟨w.heap.size + 1 + 1 + 1, 5, none⟩), .string ⟨#[109, 116, 105, 109, 101]⟩, .int .i64 mtime, .pointer (some ⟨w.heap.size + 1 + 1 + 1, 6, none⟩)] := lf2.alloc _
  obtain ⟨h0, h1, h2, h3, h4, h5, h6, h7, h8, h9, h10, h11, a0, a1, a2, a3⟩ := sc3.args; obtain ⟨e0, e1, e2, e3, e4, e5, e6, e7, e8, e9⟩ := sc3.ents; obtain ⟨f0, f1, f2, f3, f4, f5, f6, f7, f8, f9⟩ := sc3.entsf
  rw [rounds_succ]
  go_wp2_with fail
  have fb3 : Blk (wd2.alloc (.cells #[.string ⟨#[109, 116, 105, 109, 101]⟩, .int .i64 mtime, .pointer (some ⟨w.heap.size + 1 + 1 + 1, 6, none⟩)] 196)) wd2.heap.size 196 #[.string ⟨#[109, 116, 105, 109, 101]⟩, .int .i64 mtime, .pointer (some ⟨w.heap.size + 1 + 1 + 1, 6, none⟩)] := Blk.new _ _ _
  refine (aheadNumber_any g l Ag Al cg cl nm lk ⟨#[109, 116, 105, 109, 101]⟩ mtime _ (HG.out.below sc3.b) (HL.out.below sc3.b) lg ll (HSZ.out _) (HE.out.below sc3.b)).mono ?_
  rintro e wn3 ⟨rfl, hbn3⟩
  have sn3 := sc3.next hbn3
  have fc3 := (fb3.below hbn3 fb3.lt).cell 2; clear fb3
  have le3 := ld3.below hbn3 ld3.lt
  clear h0 h1 h2 h3 h4 h5 h6 h7 h8 h9 h10 h11 a0 a1 a2 a3 e0 e1 e2 e3 e4 e5 e6 e7 e8 e9 f0 f1 f2 f3 f4 f5 f6 f7 f8 f9 lc9 lc10 lc11 i4
  clear st2 lf2 sc3 ld3 hbn3
  obtain ⟨h0, h1, h2, h3, h4, h5, h6, h7, h8, h9, h10, h11, a0, a1, a2, a3⟩ := sn3.args; obtain ⟨e0, e1, e2, e3, e4, e5, e6, e7, e8, e9⟩ := sn3.ents; obtain ⟨f0, f1, f2, f3, f4, f5, f6, f7, f8, f9⟩ := sn3.entsf
  have i0 := sn3.h.lt; have i1 := sn3.a.lt; have i2 := sn3.r.lt; have i3 := sn3.e.lt; have i4 := le3.lt
  obtain ⟨q3, hq3⟩ : ∃ q, numOf g l ⟨#[109, 116, 105, 109, 101]⟩ mtime = q := ⟨_, rfl⟩
  rw [hq3]; have HQ3 := Lib.hid hq3; clear hq3
  rcases q3 with _ | n3
  · (obtain ⟨r0, r1, r2, r3, r4, r5, r6, r7, r8, r9⟩ := sn3.ress; obtain ⟨rf0, rf1, rf2, rf3, rf4, rf5, rf6, rf7, rf8, rf9⟩ := sn3.ressf; dsimp only [numV]; go_wp2_with fail; (try simp only [Exit.inBlock, Exit.then]); (refine make_rets sn3 _ _ _ _ _ _ _ _ _ _ _ rfl rfl ?_); (rw [HV.out, HQ0.out, HQ1.out, HQ2.out, HQ3.out]; rfl))
  dsimp only [numV]
  go_wp2_with fail
  have st3 : St w _ #[.int .i64 form, .string name, .string link, .string pre, .string user, .string group, .int .u8 typ, .int .i64 mode, .int .i64 uid, .int .i64 gid, .int .i64 size, .int .i64 mtime] #[.slice Ag g.length cg, .slice Al l.length cl, .string nm, .string lk] #[.string ⟨#[]⟩, .string ⟨#[]⟩, .int .i64 0, .int .i64 0, .int .i64 0, .int .i64 0, .int .i64 0, .int .i64 0, .string ⟨#[]⟩, .string ⟨#[]⟩] #[.string (textOf g l ⟨#[112, 97, 116, 104]⟩ nm (fullOf name pre)), .string (textOf g l ⟨#[108, 105, 110, 107, 112, 97, 116, 104]⟩ lk link), .int .i64 K, .int .i64 ((bits .and .i64 mode 4095)), .int .i64 n1, .int .i64 n2, .int .i64 n3, .int .i64 n0, .string (textOf g l ⟨#[117, 110, 97, 109, 101]⟩ ⟨#[]⟩ user), .string (textOf g l ⟨#[103, 110, 97, 109, 101]⟩ ⟨#[]⟩ group)] := sn3.setE 6 (.int .i64 n3)
  have lf3 : Blk _ LB 196 #[.string ⟨#[115, 105, 122, 101]⟩, .int .i64 size, .pointer (some ⟨w.heap.size + 1 + 1 + 1, 7, none⟩), .string ⟨#[117, 105, 100]⟩, .int .i64 uid, .pointer (some ⟨w.heap.size + 1 + 1 + 1, 4, none⟩), .string ⟨#[103, 105, 100]⟩, .int .i64 gid, .pointer (some ⟨w.heap.size + 1 + 1 + 1, 5, none⟩), .string ⟨#[109, 116, 105, 109, 101]⟩, .int .i64 mtime, .pointer (some ⟨w.heap.size + 1 + 1 + 1, 6, none⟩)] := le3.far (p := ⟨w.heap.size + 1 + 1 + 1, 6, none⟩) (by simp; omega) (.int .i64 n3)
  generalize hgen_w : World.setCell wn3 ⟨w.heap.size + 1 + 1 + 1, 6, none⟩ (.int .i64 n3) = wd3 at st3 lf3 ⊢
  clear h0 h1 h2 h3 h4 h5 h6 h7 h8 h9 h10 h11 a0 a1 a2 a3 e0 e1 e2 e3 e4 e5 e6 e7 e8 e9 f0 f1 f2 f3 f4 f5 f6 f7 f8 f9 i0 i1 i2 i3 i4 hgen_w sn3 le3 fc3
  obtain ⟨h0, h1, h2, h3, h4, h5, h6, h7, h8, h9, h10, h11, a0, a1, a2, a3⟩ := st3.args; obtain ⟨e0, e1, e2, e3, e4, e5, e6, e7, e8, e9⟩ := st3.ents; obtain ⟨f0, f1, f2, f3, f4, f5, f6, f7, f8, f9⟩ := st3.entsf
  obtain ⟨r0, r1, r2, r3, r4, r5, r6, r7, r8, r9⟩ := st3.ress; obtain ⟨rf0, rf1, rf2, rf3, rf4, rf5, rf6, rf7, rf8, rf9⟩ := st3.ressf
  clear hK
  rw [rounds_succ]
  rcases hkc with rfl | hkc
  · by_cases hf : form = 0
    · subst hf
      by_cases hsl : Lib.hasSuffix (textOf g l ⟨#[112, 97, 116, 104]⟩ nm (fullOf name pre)).data.toList [47] = true
      · have HSL := Lib.hid hsl; (go_wp2_with (go_at_call 112; refine (Tryz.strings_HasSuffix (textOf g l ⟨#[112, 97, 116, 104]⟩ nm (fullOf name pre)) ⟨#[47]⟩ _ hpath).mono ?_; rw [HSL.out]; rintro e wh ⟨rfl, rfl⟩)); all_goals ((try simp only [Exit.inBlock, Exit.then]); (refine make_rets ((((st3.setE 2 (.int .i64 4)).setE 7 (.int .i64 0)).setE 1 (.string ⟨#[]⟩))) _ _ _ _ _ _ _ _ _ _ _ rfl rfl ?_); (rw [HV.out, HQ0.out, HQ1.out, HQ2.out, HQ3.out]; unfold madeV; dsimp only; unfold finV; rw [if_pos rfl, if_pos ⟨rfl, HSL.out⟩]; (first | (rw [if_pos (by omega)]) | (rw [if_neg (by omega)])); (try rfl)))
      · have HSL := Lib.hid hsl; simp only [Bool.not_eq_true] at hsl; (go_wp2_with (go_at_call 112; refine (Tryz.strings_HasSuffix (textOf g l ⟨#[112, 97, 116, 104]⟩ nm (fullOf name pre)) ⟨#[47]⟩ _ hpath).mono ?_; rw [hsl]; rintro e wh ⟨rfl, rfl⟩)); all_goals ((try simp only [Exit.inBlock, Exit.then]); (refine make_rets (st3.setE 1 (.string ⟨#[]⟩)) _ _ _ _ _ _ _ _ _ _ _ rfl rfl ?_); (rw [HV.out, HQ0.out, HQ1.out, HQ2.out, HQ3.out]; unfold madeV; dsimp only; unfold finV; rw [if_pos rfl, if_neg (fun h => HSL.out h.2)]; (first | (rw [if_pos (by omega)]) | (rw [if_neg (by omega)])); (try rfl)))
    · have hf2 : (form == 0) = false := by simpa using hf
      have HF := Lib.hid hf; clear hf
      go_wp2_with fail; all_goals ((try simp only [Exit.inBlock, Exit.then]); (refine make_rets (st3.setE 1 (.string ⟨#[]⟩)) _ _ _ _ _ _ _ _ _ _ _ rfl rfl ?_); (rw [HV.out, HQ0.out, HQ1.out, HQ2.out, HQ3.out]; unfold madeV; dsimp only; unfold finV; rw [if_pos rfl, if_neg (fun h => HF.out h.1)]; (first | (rw [if_pos (by omega)]) | (rw [if_neg (by omega)])); (try rfl)))
  · rcases hkc with rfl | rfl | rfl
    · go_wp2_with fail; all_goals ((try simp only [Exit.inBlock, Exit.then]); (refine make_rets (st3.setE 7 (.int .i64 0)) _ _ _ _ _ _ _ _ _ _ _ rfl rfl ?_); (rw [HV.out, HQ0.out, HQ1.out, HQ2.out, HQ3.out]; unfold madeV; dsimp only; unfold finV; rw [if_neg (show ¬ (2 : Int) = 1 by decide), if_neg (show ¬ (2 : Int) = 4 by decide)]; (first | (rw [if_pos (by omega)]) | (rw [if_neg (by omega)])); (try rfl)))
    · go_wp2_with fail; all_goals ((try simp only [Exit.inBlock, Exit.then]); (refine make_rets (st3.setE 7 (.int .i64 0)) _ _ _ _ _ _ _ _ _ _ _ rfl rfl ?_); (rw [HV.out, HQ0.out, HQ1.out, HQ2.out, HQ3.out]; unfold madeV; dsimp only; unfold finV; rw [if_neg (show ¬ (3 : Int) = 1 by decide), if_neg (show ¬ (3 : Int) = 4 by decide)]; (first | (rw [if_pos (by omega)]) | (rw [if_neg (by omega)])); (try rfl)))
    · go_wp2_with fail; all_goals ((try simp only [Exit.inBlock, Exit.then]); (refine make_rets ((st3.setE 7 (.int .i64 0)).setE 1 (.string ⟨#[]⟩)) _ _ _ _ _ _ _ _ _ _ _ rfl rfl ?_); (rw [HV.out, HQ0.out, HQ1.out, HQ2.out, HQ3.out]; unfold madeV; dsimp only; unfold finV; rw [if_neg (show ¬ (4 : Int) = 1 by decide), if_pos rfl]; (first | (rw [if_pos (by omega)]) | (rw [if_neg (by omega)])); (try rfl)))
end Go.Proofs.YtpbpfngichfgeaaGreatDoor

namespace Go.Proofs.YtpbpfngichfgeaaGreatDoor
open Go.RowKit

end Go.Proofs.YtpbpfngichfgeaaGreatDoor

namespace Go.Proofs.YtpbpfngichfgeaaGreatDoor
open Go.RowKit

abbrev hdrV (form : Int) (name link pre user group : ByteArray) (typ mode uid gid size mtime : Int) : Value := .agg #[.int .i64 form, .string name, .string link, .string pre, .string user, .string group, .int .u8 typ, .int .i64 mode, .int .i64 uid, .int .i64 gid, .int .i64 size, .int .i64 mtime]
abbrev ahdV (g l : List Rec) (Ag Al : Option Addr) (cg cl : Nat) (nm lk : ByteArray) : Value := .agg #[.slice Ag g.length cg, .slice Al l.length cl, .string nm, .string lk]
abbrev zeroE : Value := .agg #[.string ⟨#[]⟩, .string ⟨#[]⟩, .int .i64 0, .int .i64 0, .int .i64 0, .int .i64 0, .int .i64 0, .int .i64 0, .string ⟨#[]⟩, .string ⟨#[]⟩]
def makeV (form : Int) (name link pre user group : ByteArray) (typ mode uid gid size mtime : Int) (g l : List Rec) (nm lk : ByteArray) : Value :=
  if kindOf typ = 0 then .tuple #[zeroE, .int .i64 80] else
    madeV (kindOf typ) form (bits .and .i64 mode 4095) (textOf g l ⟨#[112, 97, 116, 104]⟩ nm (fullOf name pre)) (textOf g l ⟨#[108, 105, 110, 107, 112, 97, 116, 104]⟩ lk link) (textOf g l ⟨#[117, 110, 97, 109, 101]⟩ ⟨#[]⟩ user) (textOf g l ⟨#[103, 110, 97, 109, 101]⟩ ⟨#[]⟩ group) (numOf g l ⟨#[115, 105, 122, 101]⟩ size) (numOf g l ⟨#[117, 105, 100]⟩ uid) (numOf g l ⟨#[103, 105, 100]⟩ gid) (numOf g l ⟨#[109, 116, 105, 109, 101]⟩ mtime)
theorem kindOf_cases (t : Int) : kindOf t = 0 ∨ kindOf t = 1 ∨ kindOf t = 2 ∨ kindOf t = 3 ∨ kindOf t = 4 := by
  unfold kindOf
  repeat' split
  all_goals simp
theorem textOf_size {g l : List Rec} {key long short : ByteArray} {n : Nat} (h0 : (lookup g l key).size ≤ n) (h1 : long.size ≤ n) (h2 : short.size ≤ n) : (textOf g l key long short).size ≤ n := by
  unfold textOf
  split
  · exact h0
  · split
    · exact h1
    · exact h2
theorem fullOf_size {name pre : ByteArray} {n : Nat} (h : pre.size + name.size + 1 ≤ n) : (fullOf name pre).size ≤ n := by
  unfold fullOf
  split
  · omega
  · rw [ByteArray.size_append, ByteArray.size_append]; show pre.size + 1 + name.size ≤ n; omega
set_option maxHeartbeats 2000000 in
theorem make_any (form : Int) (name link pre user group : ByteArray) (typ mode uid gid size mtime : Int) (g l : List Rec) (Ag Al : Option Addr) (cg cl : Nat) (nm lk : ByteArray) (w : World)
    (hg : Recs w Ag g) (hl : Recs w Al l) (lg : g.length ≤ 1000000) (ll : l.length ≤ 1000000) (hfull : pre.size + name.size ≤ 4611686018427387903) (hnm : nm.size ≤ 4611686018427387904) (hsz : ∀ key, (lookup g l key).size ≤ 281474976710656) (he : EnvE w) :
    Calls Tryz.prog 95 #[hdrV form name link pre user group typ mode uid gid size mtime, ahdV g l Ag Al cg cl nm lk] w (Gives (makeV form name link pre user group typ mode uid gid size mtime g l nm lk) w) := by
  unfold makeV hdrV ahdV zeroE
  by_cases h : kindOf typ = 0
  · rw [if_pos h]
    clear hg hl lg ll hfull hnm hsz he
    go_enter Tryz.func95, Tryz.ntmps95
    go_wp2_with (refine (kind_any typ _).mono ?_; rw [h]; rintro e w1 ⟨rfl, rfl⟩)
    (try simp only [Exit.inBlock, Exit.then])
    refine bodyPost_ret ?_ rfl ⟨rfl, ?_⟩
    · rw [results_cell_tmp rfl]
      go_simp
    · (repeat' (first | exact Below.refl _ _ | refine Below.setCell ?_ (by show _ ≤ _; omega) _ | refine Below.drew ?_ | refine Below.alloc ?_ (by simp <;> omega) _))
  · rw [if_neg h]
    exact make_walk form name link pre user group typ mode uid gid size mtime g l Ag Al cg cl nm lk w hg hl lg ll (by omega) (kindOf typ) rfl (by simpa using h) ((kindOf_cases typ).resolve_left h) hsz he (Nat.le_trans (textOf_size (n := 4611686018427387904) (Nat.le_trans (hsz _) (by decide)) hnm (fullOf_size (by omega))) (by decide)) _ rfl

theorem getUpto_le {l : List Rec} {key v : ByteArray} {n : Nat} (h : ∀ r ∈ l, r.2.size ≤ n) : ∀ i, i ≤ l.length → getUpto l key i = some v → v.size ≤ n
  | 0, _, h2 => by cases h2
  | i + 1, hi, h2 => by
    unfold getUpto at h2
    split at h2
    · obtain rfl := Option.some.inj h2
      have hq : l.getD i default = l[i] := by simp [show i < l.length by omega]
      rw [hq]
      exact h _ (List.getElem_mem _)
    · exact getUpto_le h i (by omega) h2
theorem lookup_le {g l : List Rec} {n : Nat} (hg : ∀ r ∈ g, r.2.size ≤ n) (hl : ∀ r ∈ l, r.2.size ≤ n) (key : ByteArray) : (lookup g l key).size ≤ n := by
  unfold lookup
  split
  · exact getUpto_le hl _ (Nat.le_refl _) (by assumption)
  · cases h : getUpto g key g.length with
    | none => exact Nat.zero_le _
    | some v => exact getUpto_le hg _ (Nat.le_refl _) h
theorem below_alloc {W w : World} (h : Below W.heap.size W w) (o : Obj) : Below W.heap.size W (w.alloc o) := h.alloc h.size o
theorem EnvE.of {W w : World} (h : EnvE W) (hb : Below W.heap.size W w) : EnvE w := h.below hb

end Go.Proofs.YtpbpfngichfgeaaGreatDoor
