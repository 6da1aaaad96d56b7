/-
  What push computes, in plain Lean: the header of a block (head.Decode), the entry of a header (entry.Make), the records of bytes (pax.Decode), and the parser as a machine.
-/
import Derived.Test.YtpbpfngichfgeaaGreatDoorMades
import Derived.Test.YtpbpfngichfgeaaGreatDoorSum
import Derived.Test.YtpbpfngichfgeaaGreatDoorPaxes
import Derived.Laws.BytesArg
namespace Go.Proofs.YtpbpfngichfgeaaGreatDoor
set_option linter.unusedVariables false

/-- A header's fields. -/
structure Hd where
  form : Int
  name : ByteArray
  link : ByteArray
  pre : ByteArray
  user : ByteArray
  group : ByteArray
  typ : Int
  mode : Int
  uid : Int
  gid : Int
  size : Int
  mtime : Int
abbrev Hd.val (h : Hd) : Value := .agg #[.int .i64 h.form, .string h.name, .string h.link, .string h.pre, .string h.user, .string h.group, .int .u8 h.typ, .int .i64 h.mode, .int .i64 h.uid, .int .i64 h.gid, .int .i64 h.size, .int .i64 h.mtime]
def hd0 : Hd := ⟨0, ⟨#[]⟩, ⟨#[]⟩, ⟨#[]⟩, ⟨#[]⟩, ⟨#[]⟩, 0, 0, 0, 0, 0, 0⟩
/-- An entry. -/
structure En where
  path : ByteArray
  link : ByteArray
  kd : Int
  md : Int
  uid : Int
  gid : Int
  mt : Int
  sz : Int
  user : ByteArray
  group : ByteArray
deriving DecidableEq
abbrev En.cells (e : En) : List Value := [.string e.path, .string e.link, .int .i64 e.kd, .int .i64 e.md, .int .i64 e.uid, .int .i64 e.gid, .int .i64 e.mt, .int .i64 e.sz, .string e.user, .string e.group]
def en0 : En := ⟨⟨#[]⟩, ⟨#[]⟩, 0, 0, 0, 0, 0, 0, ⟨#[]⟩, ⟨#[]⟩⟩

/-! octal.Parse -/
def binV : Int → List Int → Int × Int
  | n, [] => (n, 0)
  | n, b :: r => if 36028797018963968 ≤ n ∨ n < -36028797018963968 then (0, 20) else binV (bits .or .i64 (n * 256) b) r
def digV : Int → List Int → Option (Int × List Int)
  | n, [] => some (n, [])
  | n, b :: r => if 48 ≤ b ∧ b ≤ 55 then (if 1152921504606846976 ≤ n then none else digV (8 * n + (b - 48)) r) else some (n, b :: r)
def octT (l : List Int) : Int × Int :=
  match digV 0 (l.dropWhile (· == 32)) with
  | none => (0, 20)
  | some (n, r) => if r.all (fun b => b == 0 || b == 32) = true then (n, 0) else (0, 20)
def octV : List Int → Int × Int
  | [] => octT []
  | f :: r => if 128 ≤ f then (if f = 128 then binV 0 r else if f = 255 then binV (-1) r else (0, 20)) else octT (f :: r)
/-! sum.Right -/
def ssum (l : List Int) : Nat → Int
  | 0 => 0
  | k + 1 => ssum l k + (if 148 ≤ k ∧ k < 156 then 32 else if l.getD k 0 < 128 then l.getD k 0 else l.getD k 0 - 256)
def fldL (b : List Int) (i j : Nat) : List Int := (b.drop i).take (j - i)
def rightV (b : List Int) : Bool := decide (b.length = 512) && decide ((octV (fldL b 148 156)).2 = 0) && (decide ((octV (fldL b 148 156)).1 = psum b 512) || decide ((octV (fldL b 148 156)).1 = ssum b 512))
/-! head.Decode -/
def textZ (l : List Int) : ByteArray := strOfNums (l.takeWhile (· != 0))
def nFr (k : Nat) : Nat := [100, 108, 116, 124, 136, 148].getD k 0
def numQ (b : List Int) (k : Nat) : Int × Int := octV (fldL b (nFr k) (nFr (k + 1)))
def ustarM : List Int := [117, 115, 116, 97, 114, 0, 48, 48]
def gnuM : List Int := [117, 115, 116, 97, 114, 32, 32, 0]
def decV (b : List Int) : Hd × Int :=
  if b.length ≠ 512 then (hd0, 1) else if rightV b = false then (hd0, 50) else
  if (numQ b 0).2 ≠ 0 then (hd0, (numQ b 0).2) else if (numQ b 1).2 ≠ 0 then (hd0, (numQ b 1).2) else if (numQ b 2).2 ≠ 0 then (hd0, (numQ b 2).2) else if (numQ b 3).2 ≠ 0 then (hd0, (numQ b 3).2) else if (numQ b 4).2 ≠ 0 then (hd0, (numQ b 4).2) else
  (⟨(if fldL b 257 265 = ustarM then 1 else if fldL b 257 265 = gnuM then 2 else 0), textZ (fldL b 0 100), textZ (fldL b 157 257), (if fldL b 257 265 = ustarM then textZ (fldL b 345 500) else ⟨#[]⟩),
    (if fldL b 257 265 = ustarM ∨ fldL b 257 265 = gnuM then textZ (fldL b 265 297) else ⟨#[]⟩), (if fldL b 257 265 = ustarM ∨ fldL b 257 265 = gnuM then textZ (fldL b 297 329) else ⟨#[]⟩),
    b.getD 156 0, (numQ b 0).1, (numQ b 1).1, (numQ b 2).1, (numQ b 3).1, (numQ b 4).1⟩, 0)
/-! entry.Make -/
def finE (md : Int) (path user group : ByteArray) (uid gid mt k s : Int) (l : ByteArray) : En × Int := if s < 0 ∨ uid < 0 ∨ gid < 0 then (en0, 90) else (⟨path, l, k, md, uid, gid, mt, s, user, group⟩, 0)
def mkE (h : Hd) (g l : List Rec) (nm lk : ByteArray) : En × Int :=
  let k := kindOf h.typ
  if k = 0 then (en0, 80) else
  let path := textOf g l ⟨#[112, 97, 116, 104]⟩ nm (fullOf h.name h.pre)
  let link := textOf g l ⟨#[108, 105, 110, 107, 112, 97, 116, 104]⟩ lk h.link
  let user := textOf g l ⟨#[117, 110, 97, 109, 101]⟩ ⟨#[]⟩ h.user
  let group := textOf g l ⟨#[103, 110, 97, 109, 101]⟩ ⟨#[]⟩ h.group
  match numOf g l ⟨#[115, 105, 122, 101]⟩ h.size, numOf g l ⟨#[117, 105, 100]⟩ h.uid, numOf g l ⟨#[103, 105, 100]⟩ h.gid, numOf g l ⟨#[109, 116, 105, 109, 101]⟩ h.mtime with
  | some sz, some uid, some gid, some mt =>
    let k2 := if k = 1 ∧ h.form = 0 ∧ Lib.hasSuffix path.data.toList [47] = true then 4 else k
    finE (bits .and .i64 h.mode 4095) path user group uid gid mt k2 (if k2 = 1 then sz else 0) (if k2 = 2 ∨ k2 = 3 then link else ⟨#[]⟩)
  | _, _, _, _ => (en0, 70)
/-! pax.Decode -/
def paxL : Nat → ByteArray → List Rec → List Rec × Int
  | 0, _, out => (out, 0)
  | f + 1, s, out => if s = ⟨#[]⟩ then (out, 0) else if out.length = 64 then ([], 2) else
    if (oneOf s).2.2.2 ≠ 0 then ([], (oneOf s).2.2.2) else paxL f (oneOf s).2.2.1 (out ++ [((oneOf s).1, (oneOf s).2.1)])
def paxV (l : List Int) : List Rec × Int := paxL (l.length + 1) (strOfNums l) []

/-! the parser -/
inductive EvK where
  | beg (e : En)
  | dat (b : List Int)
  | fin
  | don
  | bad (c p : Int)
structure Evt where
  k : EvK
  at_ : Int
structure PSt where
  st : Int
  block : List Int
  at_ : Int
  place : Int
  blank : Bool
  cls : Int
  text : List Int
  glob : List Rec
  loc : List Rec
  nm : ByteArray
  lk : ByteArray
  left : Int
  pad : Int
  err : Option (Int × Int)
  done : Bool
  out : List Evt
def ps0 : PSt := ⟨0, [], 0, 0, false, 0, [], [], [], ⟨#[]⟩, ⟨#[]⟩, 0, 0, none, false, []⟩
def clsOf (typ : Int) : Int := if typ = 120 then 2 else if typ = 103 then 3 else if typ = 76 then 4 else if typ = 75 then 5 else if kindOf typ = 0 then 0 else 1
def padOf (n : Int) : Int := (512 - n % 512) % 512
def blankV (b : List Int) : Bool := b.all (· == 0) && decide (b.length = 512)
def PSt.say (s : PSt) (k : EvK) : PSt := { s with out := s.out ++ [⟨k, s.at_⟩] }
def PSt.bad (s : PSt) (c : Int) : PSt := ({ s with st := 4, err := some (c, s.place) }).say (.bad c s.place)
def PSt.skip (s : PSt) : PSt := { s with st := if s.pad = 0 then 0 else 3 }
def PSt.finish (s : PSt) : PSt := (s.say .fin).skip
def PSt.told (s : PSt) : PSt :=
  if s.cls = 4 then ({ s with nm := textZ s.text }).skip
  else if s.cls = 5 then ({ s with lk := textZ s.text }).skip
  else if (paxV s.text).2 ≠ 0 then s.bad (paxV s.text).2
  else if s.cls = 3 then (if 64 < s.glob.length + (paxV s.text).1.length then s.bad 2 else ({ s with glob := s.glob ++ (paxV s.text).1 }).skip)
  else (if 64 < s.loc.length + (paxV s.text).1.length then s.bad 2 else ({ s with loc := s.loc ++ (paxV s.text).1 }).skip)
def PSt.thing (s : PSt) (h : Hd) : PSt :=
  let m := mkE h s.glob s.loc s.nm s.lk
  if m.2 ≠ 0 then s.bad m.2 else
  let s1 := ({ s with loc := [], nm := ⟨#[]⟩, lk := ⟨#[]⟩ }).say (.beg m.1)
  let s2 : PSt := { s1 with st := 2, left := m.1.sz, pad := padOf m.1.sz }
  if m.1.sz = 0 then s2.finish else s2
def PSt.head (s : PSt) : PSt :=
  if blankV s.block = true then (if s.blank = true then { ({ s with st := 4, done := true }).say .don with blank := true } else { s with blank := true })
  else if s.blank = true then s.bad 120
  else if (decV s.block).2 ≠ 0 then s.bad (decV s.block).2 else
  let h := (decV s.block).1
  let s1 : PSt := { s with cls := clsOf h.typ }
  if s1.cls = 0 then s1.bad 80 else if s1.cls = 1 then s1.thing h else
  if h.size < 0 then s1.bad 90 else if 8192 < h.size then s1.bad 2 else
  let s2 : PSt := { s1 with st := 1, left := h.size, pad := padOf h.size, text := [] }
  if h.size = 0 then s2.told else s2
/-- One round of Feed: some bytes are taken. -/
def PSt.round (s : PSt) (b : List Int) : PSt × Nat :=
  if s.st = 0 then
    let n := min b.length (512 - s.block.length)
    let s1 : PSt := { s with block := s.block ++ b.take n, at_ := s.at_ + n }
    (if s1.block.length = 512 then { ({ s1 with place := s1.at_ - 512 }).head with block := [] } else s1, n)
  else if s.st = 1 then
    let n := min b.length s.left.toNat
    let s1 : PSt := { s with text := s.text ++ b.take n, at_ := s.at_ + n, left := s.left - n }
    (if s1.left = 0 then s1.told else s1, n)
  else if s.st = 2 then
    let n := min b.length s.left.toNat
    let s1 : PSt := { ({ s with at_ := s.at_ + n }).say (.dat (b.take n)) with left := s.left - n }
    (if s1.left = 0 then s1.finish else s1, n)
  else
    let n := min b.length s.pad.toNat
    let s1 : PSt := { s with at_ := s.at_ + n, pad := s.pad - n }
    (if s1.pad = 0 then { s1 with st := 0 } else s1, n)
def PSt.feedL : Nat → PSt → List Int → PSt
  | 0, s, _ => s
  | f + 1, s, b => if b = [] ∨ s.st = 4 then s else PSt.feedL f (s.round b).1 (b.drop (s.round b).2)
def PSt.feed (s : PSt) (b : List Int) : PSt := PSt.feedL (b.length + 1) { s with out := [] } b
def PSt.endE (s : PSt) : Option (Int × Int) := if s.err.isSome then s.err else if s.done = true then none else some (5, s.at_)
end Go.Proofs.YtpbpfngichfgeaaGreatDoor
