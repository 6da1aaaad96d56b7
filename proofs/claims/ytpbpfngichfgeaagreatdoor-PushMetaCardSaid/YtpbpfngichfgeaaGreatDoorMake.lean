/-
  entry.Make, walked.
-/
import Derived.Test.YtpbpfngichfgeaaGreatDoorMakeS
import Derived.Deep.RegionHeld3
import Derived.Outline
namespace Go.Proofs.YtpbpfngichfgeaaGreatDoor
set_option linter.unusedVariables false
set_option linter.unusedSimpArgs false
open Go.RowKit

def finV (md : Int) (path user group : ByteArray) (uid gid mt k s : Int) (l : ByteArray) : Value := if s < 0 ∨ uid < 0 ∨ gid < 0 then .tuple #[.agg #[.string ⟨#[]⟩, .string ⟨#[]⟩, .int .i64 0, .int .i64 0, .int .i64 0, .int .i64 0, .int .i64 0, .int .i64 0, .string ⟨#[]⟩, .string ⟨#[]⟩], .int .i64 90] else .tuple #[.agg #[.string path, .string l, .int .i64 k, .int .i64 md, .int .i64 uid, .int .i64 gid, .int .i64 mt, .int .i64 s, .string user, .string group], .int .i64 0]
def madeV (k form md : Int) (path link user group : ByteArray) (q0 q1 q2 q3 : Option Int) : Value := match q0, q1, q2, q3 with
  | some sz, some uid, some gid, some mt => if k = 1 then if form = 0 ∧ Lib.hasSuffix path.data.toList [47] = true then finV md path user group uid gid mt 4 0 ⟨#[]⟩ else finV md path user group uid gid mt 1 sz ⟨#[]⟩ else if k = 4 then finV md path user group uid gid mt 4 0 ⟨#[]⟩ else finV md path user group uid gid mt k 0 link
  | _, _, _, _ => .tuple #[.agg #[.string ⟨#[]⟩, .string ⟨#[]⟩, .int .i64 0, .int .i64 0, .int .i64 0, .int .i64 0, .int .i64 0, .int .i64 0, .string ⟨#[]⟩, .string ⟨#[]⟩], .int .i64 70]
set_option maxHeartbeats 20000000 in
theorem make_walk (form : Int) (name link pre user group : ByteArray) (typ mode uid gid size mtime : Int) (g l : List Rec) (Ag Al : Option Addr) (cg cl : Nat) (nm lk : ByteArray) (w : World) (hg : Recs w Ag g) (hl : Recs w Al l) (lg : g.length ≤ 1000000) (ll : l.length ≤ 1000000) (hfull : pre.size + name.size ≤ 4611686018427387904) (K : Int) (hK : kindOf typ = K) (hk : (K == 0) = false) (hkc : K = 1 ∨ K = 2 ∨ K = 3 ∨ K = 4) (hsz : ∀ key, (lookup g l key).size ≤ 281474976710656) (he : EnvE w) (hpath : (textOf g l ⟨#[112, 97, 116, 104]⟩ nm (fullOf name pre)).size ≤ 9223372036854775807) (V : Value) (hV : V = madeV K form (bits .and .i64 mode 4095) (textOf g l ⟨#[112, 97, 116, 104]⟩ nm (fullOf name pre)) (textOf g l ⟨#[108, 105, 110, 107, 112, 97, 116, 104]⟩ lk link) (textOf g l ⟨#[117, 110, 97, 109, 101]⟩ ⟨#[]⟩ user) (textOf g l ⟨#[103, 110, 97, 109, 101]⟩ ⟨#[]⟩ group) (numOf g l ⟨#[115, 105, 122, 101]⟩ size) (numOf g l ⟨#[117, 105, 100]⟩ uid) (numOf g l ⟨#[103, 105, 100]⟩ gid) (numOf g l ⟨#[109, 116, 105, 109, 101]⟩ mtime)) :
    Calls Tryz.prog 95 #[.agg #[.int .i64 form, .string name, .string link, .string pre, .string user, .string group, .int .u8 typ, .int .i64 mode, .int .i64 uid, .int .i64 gid, .int .i64 size, .int .i64 mtime], .agg #[.slice Ag g.length cg, .slice Al l.length cl, .string nm, .string lk]] w (Gives V w) := by
  have HS0 := Lib.hid (St.first w #[.int .i64 form, .string name, .string link, .string pre, .string user, .string group, .int .u8 typ, .int .i64 mode, .int .i64 uid, .int .i64 gid, .int .i64 size, .int .i64 mtime] #[.slice Ag g.length cg, .slice Al l.length cl, .string nm, .string lk] #[.string ⟨#[]⟩, .string ⟨#[]⟩, .int .i64 0, .int .i64 0, .int .i64 0, .int .i64 0, .int .i64 0, .int .i64 0, .string ⟨#[]⟩, .string ⟨#[]⟩] #[.string ⟨#[]⟩, .string ⟨#[]⟩, .int .i64 K, .int .i64 ((bits .and .i64 mode 4095)), .int .i64 0, .int .i64 0, .int .i64 0, .int .i64 0, .string ⟨#[]⟩, .string ⟨#[]⟩])
  have HG := Lib.hid hg
  have HL := Lib.hid hl
  have HSA : Hid (∀ w' res ent, St w w' #[.int .i64 form, .string name, .string link, .string pre, .string user, .string group, .int .u8 typ, .int .i64 mode, .int .i64 uid, .int .i64 gid, .int .i64 size, .int .i64 mtime] #[.slice Ag g.length cg, .slice Al l.length cl, .string nm, .string lk] res ent → w'.cell? ⟨w.heap.size, 0, none⟩ = some (.int .i64 form) ∧ w'.cell? ⟨w.heap.size, 1, none⟩ = some (.string name) ∧ w'.cell? ⟨w.heap.size, 2, none⟩ = some (.string link) ∧ w'.cell? ⟨w.heap.size, 3, none⟩ = some (.string pre) ∧ w'.cell? ⟨w.heap.size, 4, none⟩ = some (.string user) ∧ w'.cell? ⟨w.heap.size, 5, none⟩ = some (.string group) ∧ w'.cell? ⟨w.heap.size, 6, none⟩ = some (.int .u8 typ) ∧ w'.cell? ⟨w.heap.size, 7, none⟩ = some (.int .i64 mode) ∧ w'.cell? ⟨w.heap.size, 8, none⟩ = some (.int .i64 uid) ∧ w'.cell? ⟨w.heap.size, 9, none⟩ = some (.int .i64 gid) ∧ w'.cell? ⟨w.heap.size, 10, none⟩ = some (.int .i64 size) ∧ w'.cell? ⟨w.heap.size, 11, none⟩ = some (.int .i64 mtime) ∧ w'.cell? ⟨w.heap.size + 1, 0, none⟩ = some (.slice Ag g.length cg) ∧ w'.cell? ⟨w.heap.size + 1, 1, none⟩ = some (.slice Al l.length cl) ∧ w'.cell? ⟨w.heap.size + 1, 2, none⟩ = some (.string nm) ∧ w'.cell? ⟨w.heap.size + 1, 3, none⟩ = some (.string lk)) := fun _ _ _ s => s.args
  have HSZ := Lib.hid hsz; have HE := Lib.hid he
  have HV := Lib.hid hV
  clear hg hl hsz he hV
  go_enter Tryz.func95, Tryz.ntmps95
  go_wp2_with fail
  refine (kind_any typ _).mono ?_
  rw [hK]
  rintro e w1 ⟨rfl, rfl⟩
  go_wp2_with fail
  have s1 : St w _ #[.int .i64 form, .string name, .string link, .string pre, .string user, .string group, .int .u8 typ, .int .i64 mode, .int .i64 uid, .int .i64 gid, .int .i64 size, .int .i64 mtime] #[.slice Ag g.length cg, .slice Al l.length cl, .string nm, .string lk] #[.string ⟨#[]⟩, .string ⟨#[]⟩, .int .i64 0, .int .i64 0, .int .i64 0, .int .i64 0, .int .i64 0, .int .i64 0, .string ⟨#[]⟩, .string ⟨#[]⟩] #[.string ⟨#[]⟩, .string ⟨#[]⟩, .int .i64 K, .int .i64 ((bits .and .i64 mode 4095)), .int .i64 0, .int .i64 0, .int .i64 0, .int .i64 0, .string ⟨#[]⟩, .string ⟨#[]⟩] := HS0.out.drew
  go_region_held3 (fun w' => w'.cell? ⟨w.heap.size, 0, none⟩ = some (.int .i64 form) ∧ w'.cell? ⟨w.heap.size, 1, none⟩ = some (.string name) ∧ w'.cell? ⟨w.heap.size, 2, none⟩ = some (.string link) ∧ w'.cell? ⟨w.heap.size, 3, none⟩ = some (.string pre) ∧ w'.cell? ⟨w.heap.size, 4, none⟩ = some (.string user) ∧ w'.cell? ⟨w.heap.size, 5, none⟩ = some (.string group) ∧ w'.cell? ⟨w.heap.size, 6, none⟩ = some (.int .u8 typ) ∧ w'.cell? ⟨w.heap.size, 7, none⟩ = some (.int .i64 mode) ∧ w'.cell? ⟨w.heap.size, 8, none⟩ = some (.int .i64 uid) ∧ w'.cell? ⟨w.heap.size, 9, none⟩ = some (.int .i64 gid) ∧ w'.cell? ⟨w.heap.size, 10, none⟩ = some (.int .i64 size) ∧ w'.cell? ⟨w.heap.size, 11, none⟩ = some (.int .i64 mtime) ∧ w'.cell? ⟨w.heap.size + 1, 0, none⟩ = some (.slice Ag g.length cg) ∧ w'.cell? ⟨w.heap.size + 1, 1, none⟩ = some (.slice Al l.length cl) ∧ w'.cell? ⟨w.heap.size + 1, 2, none⟩ = some (.string nm) ∧ w'.cell? ⟨w.heap.size + 1, 3, none⟩ = some (.string lk)) (exact HSA.out _ _ _ (by assumption)) (first | (go_at_call 110; refine (full_any form name link pre user group typ mode uid gid size mtime hfull _).mono ?_; rintro e w2 ⟨rfl, hb2⟩; have s2 := HS0.out.drew.next hb2) | (go_at_call 109; refine (aheadText_any g l Ag Al cg cl nm lk ⟨#[112, 97, 116, 104]⟩ _ _ _ (HG.out.below s2.b) (HL.out.below s2.b) lg ll).mono ?_; rintro e w3 ⟨rfl, hb_w3⟩; have s3 := s2.next hb_w3; obtain ⟨e0, e1, e2, e3, e4, e5, e6, e7, e8, e9⟩ := s3.ents; obtain ⟨f0, f1, f2, f3, f4, f5, f6, f7, f8, f9⟩ := s3.entsf; have s4 : St w _ #[.int .i64 form, .string name, .string link, .string pre, .string user, .string group, .int .u8 typ, .int .i64 mode, .int .i64 uid, .int .i64 gid, .int .i64 size, .int .i64 mtime] #[.slice Ag g.length cg, .slice Al l.length cl, .string nm, .string lk] #[.string ⟨#[]⟩, .string ⟨#[]⟩, .int .i64 0, .int .i64 0, .int .i64 0, .int .i64 0, .int .i64 0, .int .i64 0, .string ⟨#[]⟩, .string ⟨#[]⟩] #[.string (textOf g l ⟨#[112, 97, 116, 104]⟩ nm (fullOf name pre)), .string ⟨#[]⟩, .int .i64 K, .int .i64 ((bits .and .i64 mode 4095)), .int .i64 0, .int .i64 0, .int .i64 0, .int .i64 0, .string ⟨#[]⟩, .string ⟨#[]⟩] := s3.setE 0 (.string (textOf g l ⟨#[112, 97, 116, 104]⟩ nm (fullOf name pre)))))
  clear e0 e1 e2 e3 e4 e5 e6 e7 e8 e9 f0 f1 f2 f3 f4 f5 f6 f7 f8 f9
  generalize hgen_w5 : World.setCell w3 ⟨w.heap.size + 1 + 1 + 1, 0, none⟩ (.string (textOf g l ⟨#[112, 97, 116, 104]⟩ nm (fullOf name pre))) = w5 at s4 ⊢
  clear hgen_w5
  clear s1 s2 s3
  obtain ⟨h0, h1, h2, h3, h4, h5, h6, h7, h8, h9, h10, h11, a0, a1, a2, a3⟩ := s4.args; obtain ⟨e0, e1, e2, e3, e4, e5, e6, e7, e8, e9⟩ := s4.ents; obtain ⟨f0, f1, f2, f3, f4, f5, f6, f7, f8, f9⟩ := s4.entsf
  go_wp2_with fail
  refine (aheadText_any g l Ag Al cg cl nm lk ⟨#[108, 105, 110, 107, 112, 97, 116, 104]⟩ _ _ _ (HG.out.below s4.b) (HL.out.below s4.b) lg ll).mono ?_
  rintro e w6 ⟨rfl, hb6⟩
  clear h0 h1 h2 h3 h4 h5 h6 h7 h8 h9 h10 h11 a0 a1 a2 a3 e0 e1 e2 e3 e4 e5 e6 e7 e8 e9 f0 f1 f2 f3 f4 f5 f6 f7 f8 f9
  have s6 := s4.next hb6
  obtain ⟨e0, e1, e2, e3, e4, e5, e6, e7, e8, e9⟩ := s6.ents; obtain ⟨f0, f1, f2, f3, f4, f5, f6, f7, f8, f9⟩ := s6.entsf
  have s7 : St w _ #[.int .i64 form, .string name, .string link, .string pre, .string user, .string group, .int .u8 typ, .int .i64 mode, .int .i64 uid, .int .i64 gid, .int .i64 size, .int .i64 mtime] #[.slice Ag g.length cg, .slice Al l.length cl, .string nm, .string lk] #[.string ⟨#[]⟩, .string ⟨#[]⟩, .int .i64 0, .int .i64 0, .int .i64 0, .int .i64 0, .int .i64 0, .int .i64 0, .string ⟨#[]⟩, .string ⟨#[]⟩] #[.string (textOf g l ⟨#[112, 97, 116, 104]⟩ nm (fullOf name pre)), .string (textOf g l ⟨#[108, 105, 110, 107, 112, 97, 116, 104]⟩ lk link), .int .i64 K, .int .i64 ((bits .and .i64 mode 4095)), .int .i64 0, .int .i64 0, .int .i64 0, .int .i64 0, .string ⟨#[]⟩, .string ⟨#[]⟩] := s6.setE 1 (.string (textOf g l ⟨#[108, 105, 110, 107, 112, 97, 116, 104]⟩ lk link))
  go_wp2_with fail
  clear e0 e1 e2 e3 e4 e5 e6 e7 e8 e9 f0 f1 f2 f3 f4 f5 f6 f7 f8 f9
  generalize hgen_w8 : World.setCell w6 ⟨w.heap.size + 1 + 1 + 1, 1, none⟩ (.string (textOf g l ⟨#[108, 105, 110, 107, 112, 97, 116, 104]⟩ lk link)) = w8 at s7 ⊢
  clear hgen_w8
  clear s4 s6
  have s8 : St w _ #[.int .i64 form, .string name, .string link, .string pre, .string user, .string group, .int .u8 typ, .int .i64 mode, .int .i64 uid, .int .i64 gid, .int .i64 size, .int .i64 mtime] #[.slice Ag g.length cg, .slice Al l.length cl, .string nm, .string lk] #[.string ⟨#[]⟩, .string ⟨#[]⟩, .int .i64 0, .int .i64 0, .int .i64 0, .int .i64 0, .int .i64 0, .int .i64 0, .string ⟨#[]⟩, .string ⟨#[]⟩] #[.string (textOf g l ⟨#[112, 97, 116, 104]⟩ nm (fullOf name pre)), .string (textOf g l ⟨#[108, 105, 110, 107, 112, 97, 116, 104]⟩ lk link), .int .i64 K, .int .i64 ((bits .and .i64 mode 4095)), .int .i64 0, .int .i64 0, .int .i64 0, .int .i64 0, .string ⟨#[]⟩, .string ⟨#[]⟩] := s7.drew
  go_region_held3 (fun w' => w'.cell? ⟨w.heap.size, 0, none⟩ = some (.int .i64 form) ∧ w'.cell? ⟨w.heap.size, 1, none⟩ = some (.string name) ∧ w'.cell? ⟨w.heap.size, 2, none⟩ = some (.string link) ∧ w'.cell? ⟨w.heap.size, 3, none⟩ = some (.string pre) ∧ w'.cell? ⟨w.heap.size, 4, none⟩ = some (.string user) ∧ w'.cell? ⟨w.heap.size, 5, none⟩ = some (.string group) ∧ w'.cell? ⟨w.heap.size, 6, none⟩ = some (.int .u8 typ) ∧ w'.cell? ⟨w.heap.size, 7, none⟩ = some (.int .i64 mode) ∧ w'.cell? ⟨w.heap.size, 8, none⟩ = some (.int .i64 uid) ∧ w'.cell? ⟨w.heap.size, 9, none⟩ = some (.int .i64 gid) ∧ w'.cell? ⟨w.heap.size, 10, none⟩ = some (.int .i64 size) ∧ w'.cell? ⟨w.heap.size, 11, none⟩ = some (.int .i64 mtime) ∧ w'.cell? ⟨w.heap.size + 1, 0, none⟩ = some (.slice Ag g.length cg) ∧ w'.cell? ⟨w.heap.size + 1, 1, none⟩ = some (.slice Al l.length cl) ∧ w'.cell? ⟨w.heap.size + 1, 2, none⟩ = some (.string nm) ∧ w'.cell? ⟨w.heap.size + 1, 3, none⟩ = some (.string lk)) (exact HSA.out _ _ _ (by assumption)) (first | (go_at_call 109; (with_reducible refine (aheadText_any g l Ag Al cg cl nm lk ⟨#[117, 110, 97, 109, 101]⟩ _ _ _ (HG.out.below s8.b) (HL.out.below s8.b) lg ll).mono ?_); rintro e w9 ⟨rfl, hb_w9⟩; have s9 := s8.next hb_w9) | (go_at_call 109; (with_reducible refine (aheadText_any g l Ag Al cg cl nm lk ⟨#[103, 110, 97, 109, 101]⟩ _ _ _ (HG.out.below s9.b) (HL.out.below s9.b) lg ll).mono ?_); rintro e w10 ⟨rfl, hb_w10⟩; have s10 := s9.next hb_w10; obtain ⟨e0, e1, e2, e3, e4, e5, e6, e7, e8, e9⟩ := s10.ents; obtain ⟨f0, f1, f2, f3, f4, f5, f6, f7, f8, f9⟩ := s10.entsf; have s11 : St w _ #[.int .i64 form, .string name, .string link, .string pre, .string user, .string group, .int .u8 typ, .int .i64 mode, .int .i64 uid, .int .i64 gid, .int .i64 size, .int .i64 mtime] #[.slice Ag g.length cg, .slice Al l.length cl, .string nm, .string lk] #[.string ⟨#[]⟩, .string ⟨#[]⟩, .int .i64 0, .int .i64 0, .int .i64 0, .int .i64 0, .int .i64 0, .int .i64 0, .string ⟨#[]⟩, .string ⟨#[]⟩] #[.string (textOf g l ⟨#[112, 97, 116, 104]⟩ nm (fullOf name pre)), .string (textOf g l ⟨#[108, 105, 110, 107, 112, 97, 116, 104]⟩ lk link), .int .i64 K, .int .i64 ((bits .and .i64 mode 4095)), .int .i64 0, .int .i64 0, .int .i64 0, .int .i64 0, .string (textOf g l ⟨#[117, 110, 97, 109, 101]⟩ ⟨#[]⟩ user), .string ⟨#[]⟩] := s10.setE 8 (.string (textOf g l ⟨#[117, 110, 97, 109, 101]⟩ ⟨#[]⟩ user)); have s12 : St w _ #[.int .i64 form, .string name, .string link, .string pre, .string user, .string group, .int .u8 typ, .int .i64 mode, .int .i64 uid, .int .i64 gid, .int .i64 size, .int .i64 mtime] #[.slice Ag g.length cg, .slice Al l.length cl, .string nm, .string lk] #[.string ⟨#[]⟩, .string ⟨#[]⟩, .int .i64 0, .int .i64 0, .int .i64 0, .int .i64 0, .int .i64 0, .int .i64 0, .string ⟨#[]⟩, .string ⟨#[]⟩] #[.string (textOf g l ⟨#[112, 97, 116, 104]⟩ nm (fullOf name pre)), .string (textOf g l ⟨#[108, 105, 110, 107, 112, 97, 116, 104]⟩ lk link), .int .i64 K, .int .i64 ((bits .and .i64 mode 4095)), .int .i64 0, .int .i64 0, .int .i64 0, .int .i64 0, .string (textOf g l ⟨#[117, 110, 97, 109, 101]⟩ ⟨#[]⟩ user), .string (textOf g l ⟨#[103, 110, 97, 109, 101]⟩ ⟨#[]⟩ group)] := s11.setE 9 (.string (textOf g l ⟨#[103, 110, 97, 109, 101]⟩ ⟨#[]⟩ group))))
  clear e0 e1 e2 e3 e4 e5 e6 e7 e8 e9 f0 f1 f2 f3 f4 f5 f6 f7 f8 f9
  generalize hgen_w12 : World.setCell (World.setCell w10 ⟨w.heap.size + 1 + 1 + 1, 8, none⟩ (.string (textOf g l ⟨#[117, 110, 97, 109, 101]⟩ ⟨#[]⟩ user))) ⟨w.heap.size + 1 + 1 + 1, 9, none⟩ (.string (textOf g l ⟨#[103, 110, 97, 109, 101]⟩ ⟨#[]⟩ group)) = w12 at s12 ⊢
  clear hgen_w12
  clear s7 s8 s9 s10 s11
  obtain ⟨h0, h1, h2, h3, h4, h5, h6, h7, h8, h9, h10, h11, a0, a1, a2, a3⟩ := s12.args
  go_wp2_with fail
  have lb0 : Blk (w12.alloc (.cells #[.string ⟨#[115, 105, 122, 101]⟩, .int .i64 size, .pointer (some ⟨w.heap.size + 1 + 1 + 1, 7, none⟩), .string ⟨#[117, 105, 100]⟩, .int .i64 uid, .pointer (some ⟨w.heap.size + 1 + 1 + 1, 4, none⟩), .string ⟨#[103, 105, 100]⟩, .int .i64 gid, .pointer (some ⟨w.heap.size + 1 + 1 + 1, 5, none⟩), .string ⟨#[109, 116, 105, 109, 101]⟩, .int .i64 mtime, .pointer (some ⟨w.heap.size + 1 + 1 + 1, 6, none⟩)] 196)) w12.heap.size 196 #[.string ⟨#[115, 105, 122, 101]⟩, .int .i64 size, .pointer (some ⟨w.heap.size + 1 + 1 + 1, 7, none⟩), .string ⟨#[117, 105, 100]⟩, .int .i64 uid, .pointer (some ⟨w.heap.size + 1 + 1 + 1, 4, none⟩), .string ⟨#[103, 105, 100]⟩, .int .i64 gid, .pointer (some ⟨w.heap.size + 1 + 1 + 1, 5, none⟩), .string ⟨#[109, 116, 105, 109, 101]⟩, .int .i64 mtime, .pointer (some ⟨w.heap.size + 1 + 1 + 1, 6, none⟩)] := Blk.new _ _ _
  have sB0 := s12.alloc (.cells #[.string ⟨#[115, 105, 122, 101]⟩, .int .i64 size, .pointer (some ⟨w.heap.size + 1 + 1 + 1, 7, none⟩), .string ⟨#[117, 105, 100]⟩, .int .i64 uid, .pointer (some ⟨w.heap.size + 1 + 1 + 1, 4, none⟩), .string ⟨#[103, 105, 100]⟩, .int .i64 gid, .pointer (some ⟨w.heap.size + 1 + 1 + 1, 5, none⟩), .string ⟨#[109, 116, 105, 109, 101]⟩, .int .i64 mtime, .pointer (some ⟨w.heap.size + 1 + 1 + 1, 6, none⟩)] 196)
  have hlt := s12.e.lt
  generalize hgen_wB : w12.alloc (.cells #[.string ⟨#[115, 105, 122, 101]⟩, .int .i64 size, .pointer (some ⟨w.heap.size + 1 + 1 + 1, 7, none⟩), .string ⟨#[117, 105, 100]⟩, .int .i64 uid, .pointer (some ⟨w.heap.size + 1 + 1 + 1, 4, none⟩), .string ⟨#[103, 105, 100]⟩, .int .i64 gid, .pointer (some ⟨w.heap.size + 1 + 1 + 1, 5, none⟩), .string ⟨#[109, 116, 105, 109, 101]⟩, .int .i64 mtime, .pointer (some ⟨w.heap.size + 1 + 1 + 1, 6, none⟩)] 196) = wB at lb0 sB0 ⊢
  clear hgen_wB
  generalize hgen_LB : w12.heap.size = LB at lb0 hlt ⊢
  clear hgen_LB s12
  clear h0 h1 h2 h3 h4 h5 h6 h7 h8 h9 h10 h11 a0 a1 a2 a3
  refine wp_loop_rounds 5 ?_
  have lc0 := lb0.cell 0
  have lc1 := lb0.cell 1
  have lc2 := lb0.cell 2
  have i4 := lb0.lt
  have sc0 := sB0.alloc (.cells #[.string ⟨#[115, 105, 122, 101]⟩, .int .i64 size, .pointer (some ⟨w.heap.size + 1 + 1 + 1, 7, none⟩)] 196)
  have ld0 : Blk (wB.alloc (.cells #[.string ⟨#[115, 105, 122, 101]⟩, .int .i64 size, .pointer (some ⟨w.heap.size + 1 + 1 + 1, 7, none⟩)] 196)) LB 196 #[.string ⟨#[115, 105, 122, 101]⟩, .int .i64 size, .pointer (some ⟨w.heap.size + 1 + 1 + 1, 7, none⟩), .string ⟨#[117, 105, 100]⟩, .int .i64 uid, .pointer (some ⟨w.heap.size + 1 + 1 + 1, 4, none⟩), .string ⟨#[103, 105, 100]⟩, .int .i64 gid, .pointer (some ⟨w.heap.size + 1 + 1 + 1, 5, none⟩), .string ⟨#[109, 116, 105, 109, 101]⟩, .int .i64 mtime, .pointer (some ⟨w.heap.size + 1 + 1 + 1, 6, none⟩)] := lb0.alloc _
  obtain ⟨h0, h1, h2, h3, h4, h5, h6, h7, h8, h9, h10, h11, a0, a1, a2, a3⟩ := sc0.args; obtain ⟨e0, e1, e2, e3, e4, e5, e6, e7, e8, e9⟩ := sc0.ents; obtain ⟨f0, f1, f2, f3, f4, f5, f6, f7, f8, f9⟩ := sc0.entsf
  rw [rounds_succ]
  go_wp2_with fail
  have fb0 : Blk (wB.alloc (.cells #[.string ⟨#[115, 105, 122, 101]⟩, .int .i64 size, .pointer (some ⟨w.heap.size + 1 + 1 + 1, 7, none⟩)] 196)) wB.heap.size 196 #[.string ⟨#[115, 105, 122, 101]⟩, .int .i64 size, .pointer (some ⟨w.heap.size + 1 + 1 + 1, 7, none⟩)] := Blk.new _ _ _
  refine (aheadNumber_any g l Ag Al cg cl nm lk ⟨#[115, 105, 122, 101]⟩ size _ (HG.out.below sc0.b) (HL.out.below sc0.b) lg ll (HSZ.out _) (HE.out.below sc0.b)).mono ?_
  rintro e wn0 ⟨rfl, hbn0⟩
  have sn0 := sc0.next hbn0
  have fc0 := (fb0.below hbn0 fb0.lt).cell 2; clear fb0
  have le0 := ld0.below hbn0 ld0.lt
  clear h0 h1 h2 h3 h4 h5 h6 h7 h8 h9 h10 h11 a0 a1 a2 a3 e0 e1 e2 e3 e4 e5 e6 e7 e8 e9 f0 f1 f2 f3 f4 f5 f6 f7 f8 f9 lc0 lc1 lc2 i4
  clear sB0 lb0 sc0 ld0 hbn0
  obtain ⟨h0, h1, h2, h3, h4, h5, h6, h7, h8, h9, h10, h11, a0, a1, a2, a3⟩ := sn0.args; obtain ⟨e0, e1, e2, e3, e4, e5, e6, e7, e8, e9⟩ := sn0.ents; obtain ⟨f0, f1, f2, f3, f4, f5, f6, f7, f8, f9⟩ := sn0.entsf
  have i0 := sn0.h.lt; have i1 := sn0.a.lt; have i2 := sn0.r.lt; have i3 := sn0.e.lt; have i4 := le0.lt
  obtain ⟨q0, hq0⟩ : ∃ q, numOf g l ⟨#[115, 105, 122, 101]⟩ size = q := ⟨_, rfl⟩
  rw [hq0]; have HQ0 := Lib.hid hq0; clear hq0
  rcases q0 with _ | n0
  · (obtain ⟨r0, r1, r2, r3, r4, r5, r6, r7, r8, r9⟩ := sn0.ress; obtain ⟨rf0, rf1, rf2, rf3, rf4, rf5, rf6, rf7, rf8, rf9⟩ := sn0.ressf; dsimp only [numV]; go_wp2_with fail; (try simp only [Exit.inBlock, Exit.then]); (refine make_rets sn0 _ _ _ _ _ _ _ _ _ _ _ rfl rfl ?_); (rw [HV.out, HQ0.out]; rfl))
  dsimp only [numV]
  go_wp2_with fail
  have st0 : St w _ #[.int .i64 form, .string name, .string link, .string pre, .string user, .string group, .int .u8 typ, .int .i64 mode, .int .i64 uid, .int .i64 gid, .int .i64 size, .int .i64 mtime] #[.slice Ag g.length cg, .slice Al l.length cl, .string nm, .string lk] #[.string ⟨#[]⟩, .string ⟨#[]⟩, .int .i64 0, .int .i64 0, .int .i64 0, .int .i64 0, .int .i64 0, .int .i64 0, .string ⟨#[]⟩, .string ⟨#[]⟩] #[.string (textOf g l ⟨#[112, 97, 116, 104]⟩ nm (fullOf name pre)), .string (textOf g l ⟨#[108, 105, 110, 107, 112, 97, 116, 104]⟩ lk link), .int .i64 K, .int .i64 ((bits .and .i64 mode 4095)), .int .i64 0, .int .i64 0, .int .i64 0, .int .i64 n0, .string (textOf g l ⟨#[117, 110, 97, 109, 101]⟩ ⟨#[]⟩ user), .string (textOf g l ⟨#[103, 110, 97, 109, 101]⟩ ⟨#[]⟩ group)] := sn0.setE 7 (.int .i64 n0)
  have lf0 : Blk _ LB 196 #[.string ⟨#[115, 105, 122, 101]⟩, .int .i64 size, .pointer (some ⟨w.heap.size + 1 + 1 + 1, 7, none⟩), .string ⟨#[117, 105, 100]⟩, .int .i64 uid, .pointer (some ⟨w.heap.size + 1 + 1 + 1, 4, none⟩), .string ⟨#[103, 105, 100]⟩, .int .i64 gid, .pointer (some ⟨w.heap.size + 1 + 1 + 1, 5, none⟩), .string ⟨#[109, 116, 105, 109, 101]⟩, .int .i64 mtime, .pointer (some ⟨w.heap.size + 1 + 1 + 1, 6, none⟩)] := le0.far (p := ⟨w.heap.size + 1 + 1 + 1, 7, none⟩) (by simp; omega) (.int .i64 n0)
  generalize hgen_w : World.setCell wn0 ⟨w.heap.size + 1 + 1 + 1, 7, none⟩ (.int .i64 n0) = wd0 at st0 lf0 ⊢
  clear h0 h1 h2 h3 h4 h5 h6 h7 h8 h9 h10 h11 a0 a1 a2 a3 e0 e1 e2 e3 e4 e5 e6 e7 e8 e9 f0 f1 f2 f3 f4 f5 f6 f7 f8 f9 i0 i1 i2 i3 i4 hgen_w sn0 le0 fc0
  have lc3 := lf0.cell 3
  have lc4 := lf0.cell 4
  have lc5 := lf0.cell 5
  have i4 := lf0.lt
  have sc1 := st0.alloc (.cells #[.string ⟨#[117, 105, 100]⟩, .int .i64 uid, .pointer (some ⟨w.heap.size + 1 + 1 + 1, 4, none⟩)] 196)
  have ld1 : Blk (wd0.alloc (.cells #[.string ⟨#[117, 105, 100]⟩, .int .i64 uid, .pointer (some ⟨w.heap.size + 1 + 1 + 1, 4, none⟩)] 196)) LB 196 #[.string ⟨#[115, 105, 122, 101]⟩, .int .i64 size, .pointer (some ⟨w.heap.size + 1 + 1 + 1, 7, none⟩), .string ⟨#[117, 105, 100]⟩, .int .i64 uid, .pointer (some ⟨w.heap.size + 1 + 1 + 1, 4, none⟩), .string ⟨#[103, 105, 100]⟩, .int .i64 gid, .pointer (some ⟨w.heap.size + 1 + 1 + 1, 5, none⟩), .string ⟨#[109, 116, 105, 109, 101]⟩, .int .i64 mtime, .pointer (some ⟨w.heap.size + 1 + 1 + 1, 6, none⟩)] := lf0.alloc _
  obtain ⟨h0, h1, h2, h3, h4, h5, h6, h7, h8, h9, h10, h11, a0, a1, a2, a3⟩ := sc1.args; obtain ⟨e0, e1, e2, e3, e4, e5, e6, e7, e8, e9⟩ := sc1.ents; obtain ⟨f0, f1, f2, f3, f4, f5, f6, f7, f8, f9⟩ := sc1.entsf
  rw [rounds_succ]
  go_wp2_with fail
  have fb1 : Blk (wd0.alloc (.cells #[.string ⟨#[117, 105, 100]⟩, .int .i64 uid, .pointer (some ⟨w.heap.size + 1 + 1 + 1, 4, none⟩)] 196)) wd0.heap.size 196 #[.string ⟨#[117, 105, 100]⟩, .int .i64 uid, .pointer (some ⟨w.heap.size + 1 + 1 + 1, 4, none⟩)] := Blk.new _ _ _
  refine (aheadNumber_any g l Ag Al cg cl nm lk ⟨#[117, 105, 100]⟩ uid _ (HG.out.below sc1.b) (HL.out.below sc1.b) lg ll (HSZ.out _) (HE.out.below sc1.b)).mono ?_
  rintro e wn1 ⟨rfl, hbn1⟩
  have sn1 := sc1.next hbn1
  have fc1 := (fb1.below hbn1 fb1.lt).cell 2; clear fb1
  have le1 := ld1.below hbn1 ld1.lt
  clear h0 h1 h2 h3 h4 h5 h6 h7 h8 h9 h10 h11 a0 a1 a2 a3 e0 e1 e2 e3 e4 e5 e6 e7 e8 e9 f0 f1 f2 f3 f4 f5 f6 f7 f8 f9 lc3 lc4 lc5 i4
  clear st0 lf0 sc1 ld1 hbn1
  obtain ⟨h0, h1, h2, h3, h4, h5, h6, h7, h8, h9, h10, h11, a0, a1, a2, a3⟩ := sn1.args; obtain ⟨e0, e1, e2, e3, e4, e5, e6, e7, e8, e9⟩ := sn1.ents; obtain ⟨f0, f1, f2, f3, f4, f5, f6, f7, f8, f9⟩ := sn1.entsf
  have i0 := sn1.h.lt; have i1 := sn1.a.lt; have i2 := sn1.r.lt; have i3 := sn1.e.lt; have i4 := le1.lt
  obtain ⟨q1, hq1⟩ : ∃ q, numOf g l ⟨#[117, 105, 100]⟩ uid = q := ⟨_, rfl⟩
  rw [hq1]; have HQ1 := Lib.hid hq1; clear hq1
  rcases q1 with _ | n1
  · (obtain ⟨r0, r1, r2, r3, r4, r5, r6, r7, r8, r9⟩ := sn1.ress; obtain ⟨rf0, rf1, rf2, rf3, rf4, rf5, rf6, rf7, rf8, rf9⟩ := sn1.ressf; dsimp only [numV]; go_wp2_with fail; (try simp only [Exit.inBlock, Exit.then]); (refine make_rets sn1 _ _ _ _ _ _ _ _ _ _ _ rfl rfl ?_); (rw [HV.out, HQ0.out, HQ1.out]; rfl))
  dsimp only [numV]
  go_wp2_with fail
  have st1 : St w _ #[.int .i64 form, .string name, .string link, .string pre, .string user, .string group, .int .u8 typ, .int .i64 mode, .int .i64 uid, .int .i64 gid, .int .i64 size, .int .i64 mtime] #[.slice Ag g.length cg, .slice Al l.length cl, .string nm, .string lk] #[.string ⟨#[]⟩, .string ⟨#[]⟩, .int .i64 0, .int .i64 0, .int .i64 0, .int .i64 0, .int .i64 0, .int .i64 0, .string ⟨#[]⟩, .string ⟨#[]⟩] #[.string (textOf g l ⟨#[112, 97, 116, 104]⟩ nm (fullOf name pre)), .string (textOf g l ⟨#[108, 105, 110, 107, 112, 97, 116, 104]⟩ lk link), .int .i64 K, .int .i64 ((bits .and .i64 mode 4095)), .int .i64 n1, .int .i64 0, .int .i64 0, .int .i64 n0, .string (textOf g l ⟨#[117, 110, 97, 109, 101]⟩ ⟨#[]⟩ user), .string (textOf g l ⟨#[103, 110, 97, 109, 101]⟩ ⟨#[]⟩ group)] := sn1.setE 4 (.int .i64 n1)
  have lf1 : Blk _ LB 196 #[.string ⟨#[115, 105, 122, 101]⟩, .int .i64 size, .pointer (some ⟨w.heap.size + 1 + 1 + 1, 7, none⟩), .string ⟨#[117, 105, 100]⟩, .int .i64 uid, .pointer (some ⟨w.heap.size + 1 + 1 + 1, 4, none⟩), .string ⟨#[103, 105, 100]⟩, .int .i64 gid, .pointer (some ⟨w.heap.size + 1 + 1 + 1, 5, none⟩), .string ⟨#[109, 116, 105, 109, 101]⟩, .int .i64 mtime, .pointer (some ⟨w.heap.size + 1 + 1 + 1, 6, none⟩)] := le1.far (p := ⟨w.heap.size + 1 + 1 + 1, 4, none⟩) (by simp; omega) (.int .i64 n1)
  generalize hgen_w : World.setCell wn1 ⟨w.heap.size + 1 + 1 + 1, 4, none⟩ (.int .i64 n1) = wd1 at st1 lf1 ⊢
  clear h0 h1 h2 h3 h4 h5 h6 h7 h8 h9 h10 h11 a0 a1 a2 a3 e0 e1 e2 e3 e4 e5 e6 e7 e8 e9 f0 f1 f2 f3 f4 f5 f6 f7 f8 f9 i0 i1 i2 i3 i4 hgen_w sn1 le1 fc1
  have lc6 := lf1.cell 6
  have lc7 := lf1.cell 7
  have lc8 := lf1.cell 8
  have i4 := lf1.lt
  have sc2 := st1.alloc (.cells #[.string ⟨#[103, 105, 100]⟩, .int .i64 gid, .pointer (some ⟨w.heap.size + 1 + 1 + 1, 5, none⟩)] 196)
  have ld2 : Blk (wd1.alloc (.cells #[.string ⟨#[103, 105, 100]⟩, .int .i64 gid, .pointer (some ⟨w.heap.size + 1 + 1 + 1, 5, none⟩)] 196)) LB 196 #[.string ⟨#[115, 105, 122, 101]⟩, .int .i64 size, .pointer (some ⟨w.heap.size + 1 + 1 + 1, 7, none⟩), .string ⟨#[117, 105, 100]⟩, .int .i64 uid, .pointer (some ⟨w.heap.size + 1 + 1 + 1, 4, none⟩), .string ⟨#[103, 105, 100]⟩, .int .i64 gid, .pointer (some ⟨w.heap.size + 1 + 1 + 1, 5, none⟩), .string ⟨#[109, 116, 105, 109, 101]⟩, .int .i64 mtime, .pointer (some ⟨w.heap.size + 1 + 1 + 1, 6, none⟩)] := lf1.alloc _
  obtain ⟨h0, h1, h2, h3, h4, h5, h6, h7, h8, h9, h10, h11, a0, a1, a2, a3⟩ := sc2.args; obtain ⟨e0, e1, e2, e3, e4, e5, e6, e7, e8, e9⟩ := sc2.ents; obtain ⟨f0, f1, f2, f3, f4, f5, f6, f7, f8, f9⟩ := sc2.entsf
  rw [rounds_succ]
  go_wp2_with fail
  have fb2 : Blk (wd1.alloc (.cells #[.string ⟨#[103, 105, 100]⟩, .int .i64 gid, .pointer (some ⟨w.heap.size + 1 + 1 + 1, 5, none⟩)] 196)) wd1.heap.size 196 #[.string ⟨#[103, 105, 100]⟩, .int .i64 gid, .pointer (some ⟨w.heap.size + 1 + 1 + 1, 5, none⟩)] := Blk.new _ _ _
  refine (aheadNumber_any g l Ag Al cg cl nm lk ⟨#[103, 105, 100]⟩ gid _ (HG.out.below sc2.b) (HL.out.below sc2.b) lg ll (HSZ.out _) (HE.out.below sc2.b)).mono ?_
  rintro e wn2 ⟨rfl, hbn2⟩
  have sn2 := sc2.next hbn2
  have fc2 := (fb2.below hbn2 fb2.lt).cell 2; clear fb2
  have le2 := ld2.below hbn2 ld2.lt
  clear h0 h1 h2 h3 h4 h5 h6 h7 h8 h9 h10 h11 a0 a1 a2 a3 e0 e1 e2 e3 e4 e5 e6 e7 e8 e9 f0 f1 f2 f3 f4 f5 f6 f7 f8 f9 lc6 lc7 lc8 i4
  clear st1 lf1 sc2 ld2 hbn2
  obtain ⟨h0, h1, h2, h3, h4, h5, h6, h7, h8, h9, h10, h11, a0, a1, a2, a3⟩ := sn2.args; obtain ⟨e0, e1, e2, e3, e4, e5, e6, e7, e8, e9⟩ := sn2.ents; obtain ⟨f0, f1, f2, f3, f4, f5, f6, f7, f8, f9⟩ := sn2.entsf
  have i0 := sn2.h.lt; have i1 := sn2.a.lt; have i2 := sn2.r.lt; have i3 := sn2.e.lt; have i4 := le2.lt
  obtain ⟨q2, hq2⟩ : ∃ q, numOf g l ⟨#[103, 105, 100]⟩ gid = q := ⟨_, rfl⟩
  rw [hq2]; have HQ2 := Lib.hid hq2; clear hq2
  rcases q2 with _ | n2
  · (obtain ⟨r0, r1, r2, r3, r4, r5, r6, r7, r8, r9⟩ := sn2.ress; obtain ⟨rf0, rf1, rf2, rf3, rf4, rf5, rf6, rf7, rf8, rf9⟩ := sn2.ressf; dsimp only [numV]; go_wp2_with fail; (try simp only [Exit.inBlock, Exit.then]); (refine make_rets sn2 _ _ _ _ _ _ _ _ _ _ _ rfl rfl ?_); (rw [HV.out, HQ0.out, HQ1.out, HQ2.out]; rfl))
  dsimp only [numV]
  go_wp2_with fail
  have st2 : St w _ #[.int .i64 form, .string name, .string link, .string pre, .string user, .string group, .int .u8 typ, .int .i64 mode, .int .i64 uid, .int .i64 gid, .int .i64 size, .int .i64 mtime] #[.slice Ag g.length cg, .slice Al l.length cl, .string nm, .string lk] #[.string ⟨#[]⟩, .string ⟨#[]⟩, .int .i64 0, .int .i64 0, .int .i64 0, .int .i64 0, .int .i64 0, .int .i64 0, .string ⟨#[]⟩, .string ⟨#[]⟩] #[.string (textOf g l ⟨#[112, 97, 116, 104]⟩ nm (fullOf name pre)), .string (textOf g l ⟨#[108, 105, 110, 107, 112, 97, 116, 104]⟩ lk link), .int .i64 K, .int .i64 ((bits .and .i64 mode 4095)), .int .i64 n1, .int .i64 n2, .int .i64 0, .int .i64 n0, .string (textOf g l ⟨#[117, 110, 97, 109, 101]⟩ ⟨#[]⟩ user), .string (textOf g l ⟨#[103, 110, 97, 109, 101]⟩ ⟨#[]⟩ group)] := sn2.setE 5 (.int .i64 n2)
  have lf2 : Blk _ LB 196 #[.string ⟨#[115, 105, 122, 101]⟩, .int .i64 size, .pointer (some ⟨w.heap.size + 1 + 1 + 1, 7, none⟩), .string ⟨#[117, 105, 100]⟩, .int .i64 uid, .pointer (some ⟨w.heap.size + 1 + 1 + 1, 4, none⟩), .string ⟨#[103, 105, 100]⟩, .int .i64 gid, .pointer (some ⟨w.heap.size + 1 + 1 + 1, 5, none⟩), .string ⟨#[109, 116, 105, 109, 101]⟩, .int .i64 mtime, .pointer (some ⟨w.heap.size + 1 + 1 + 1, 6, none⟩)] := le2.far (p := ⟨w.heap.size + 1 + 1 + 1, 5, none⟩) (by simp; omega) (.int .i64 n2)
  generalize hgen_w : World.setCell wn2 ⟨w.heap.size + 1 + 1 + 1, 5, none⟩ (.int .i64 n2) = wd2 at st2 lf2 ⊢
  clear h0 h1 h2 h3 h4 h5 h6 h7 h8 h9 h10 h11 a0 a1 a2 a3 e0 e1 e2 e3 e4 e5 e6 e7 e8 e9 f0 f1 f2 f3 f4 f5 f6 f7 f8 f9 i0 i1 i2 i3 i4 hgen_w sn2 le2 fc2
  have lc9 := lf2.cell 9
  have lc10 := lf2.cell 10
  have lc11 := lf2.cell 11
  have i4 := lf2.lt
  have sc3 := st2.alloc (.cells #[.string ⟨#[109, 116, 105, 109, 101]⟩, .int .i64 mtime, .pointer (some ⟨w.heap.size + 1 + 1 + 1, 6, none⟩)] 196)
  have ld3 : Blk (wd2.alloc (.cells #[.string ⟨#[109, 116, 105, 109, 101]⟩, .int .i64 mtime, .pointer (some ⟨w.heap.size + 1 + 1 + 1, 6, none⟩)] 196)) LB 196 #[.string ⟨#[115, 105, 122, 101]⟩, .int .i64 size, .pointer (some ⟨w.heap.size + 1 + 1 + 1, 7, none⟩), .string ⟨#[117, 105, 100]⟩, .int .i64 uid, .pointer (some ⟨w.heap.size + 1 + 1 + 1, 4, none⟩), .string ⟨#[103, 105, 100]⟩, .int .i64 gid, .pointer (some ⟨w.heap.size + 1 + 1 + 1, 5, none⟩), .string ⟨#[109, 116, 105, 109, 101]⟩, .int .i64 mtime, .pointer (some ⟨w.heap.size + 1 + 1 + 1, 6, none⟩)] := lf2.alloc _
  obtain ⟨h0, h1, h2, h3, h4, h5, h6, h7, h8, h9, h10, h11, a0, a1, a2, a3⟩ := sc3.args; obtain ⟨e0, e1, e2, e3, e4, e5, e6, e7, e8, e9⟩ := sc3.ents; obtain ⟨f0, f1, f2, f3, f4, f5, f6, f7, f8, f9⟩ := sc3.entsf
  rw [rounds_succ]
  go_wp2_with fail
  have fb3 : Blk (wd2.alloc (.cells #[.string ⟨#[109, 116, 105, 109, 101]⟩, .int .i64 mtime, .pointer (some ⟨w.heap.size + 1 + 1 + 1, 6, none⟩)] 196)) wd2.heap.size 196 #[.string ⟨#[109, 116, 105, 109, 101]⟩, .int .i64 mtime, .pointer (some ⟨w.heap.size + 1 + 1 + 1, 6, none⟩)] := Blk.new _ _ _
  refine (aheadNumber_any g l Ag Al cg cl nm lk ⟨#[109, 116, 105, 109, 101]⟩ mtime _ (HG.out.below sc3.b) (HL.out.below sc3.b) lg ll (HSZ.out _) (HE.out.below sc3.b)).mono ?_
  rintro e wn3 ⟨rfl, hbn3⟩
  have sn3 := sc3.next hbn3
  have fc3 := (fb3.below hbn3 fb3.lt).cell 2; clear fb3
  have le3 := ld3.below hbn3 ld3.lt
  clear h0 h1 h2 h3 h4 h5 h6 h7 h8 h9 h10 h11 a0 a1 a2 a3 e0 e1 e2 e3 e4 e5 e6 e7 e8 e9 f0 f1 f2 f3 f4 f5 f6 f7 f8 f9 lc9 lc10 lc11 i4
  clear st2 lf2 sc3 ld3 hbn3
  obtain ⟨h0, h1, h2, h3, h4, h5, h6, h7, h8, h9, h10, h11, a0, a1, a2, a3⟩ := sn3.args; obtain ⟨e0, e1, e2, e3, e4, e5, e6, e7, e8, e9⟩ := sn3.ents; obtain ⟨f0, f1, f2, f3, f4, f5, f6, f7, f8, f9⟩ := sn3.entsf
  have i0 := sn3.h.lt; have i1 := sn3.a.lt; have i2 := sn3.r.lt; have i3 := sn3.e.lt; have i4 := le3.lt
  obtain ⟨q3, hq3⟩ : ∃ q, numOf g l ⟨#[109, 116, 105, 109, 101]⟩ mtime = q := ⟨_, rfl⟩
  rw [hq3]; have HQ3 := Lib.hid hq3; clear hq3
  rcases q3 with _ | n3
  · (obtain ⟨r0, r1, r2, r3, r4, r5, r6, r7, r8, r9⟩ := sn3.ress; obtain ⟨rf0, rf1, rf2, rf3, rf4, rf5, rf6, rf7, rf8, rf9⟩ := sn3.ressf; dsimp only [numV]; go_wp2_with fail; (try simp only [Exit.inBlock, Exit.then]); (refine make_rets sn3 _ _ _ _ _ _ _ _ _ _ _ rfl rfl ?_); (rw [HV.out, HQ0.out, HQ1.out, HQ2.out, HQ3.out]; rfl))
  dsimp only [numV]
  go_wp2_with fail
  have st3 : St w _ #[.int .i64 form, .string name, .string link, .string pre, .string user, .string group, .int .u8 typ, .int .i64 mode, .int .i64 uid, .int .i64 gid, .int .i64 size, .int .i64 mtime] #[.slice Ag g.length cg, .slice Al l.length cl, .string nm, .string lk] #[.string ⟨#[]⟩, .string ⟨#[]⟩, .int .i64 0, .int .i64 0, .int .i64 0, .int .i64 0, .int .i64 0, .int .i64 0, .string ⟨#[]⟩, .string ⟨#[]⟩] #[.string (textOf g l ⟨#[112, 97, 116, 104]⟩ nm (fullOf name pre)), .string (textOf g l ⟨#[108, 105, 110, 107, 112, 97, 116, 104]⟩ lk link), .int .i64 K, .int .i64 ((bits .and .i64 mode 4095)), .int .i64 n1, .int .i64 n2, .int .i64 n3, .int .i64 n0, .string (textOf g l ⟨#[117, 110, 97, 109, 101]⟩ ⟨#[]⟩ user), .string (textOf g l ⟨#[103, 110, 97, 109, 101]⟩ ⟨#[]⟩ group)] := sn3.setE 6 (.int .i64 n3)
  have lf3 : Blk _ LB 196 #[.string ⟨#[115, 105, 122, 101]⟩, .int .i64 size, .pointer (some ⟨w.heap.size + 1 + 1 + 1, 7, none⟩), .string ⟨#[117, 105, 100]⟩, .int .i64 uid, .pointer (some ⟨w.heap.size + 1 + 1 + 1, 4, none⟩), .string ⟨#[103, 105, 100]⟩, .int .i64 gid, .pointer (some ⟨w.heap.size + 1 + 1 + 1, 5, none⟩), .string ⟨#[109, 116, 105, 109, 101]⟩, .int .i64 mtime, .pointer (some ⟨w.heap.size + 1 + 1 + 1, 6, none⟩)] := le3.far (p := ⟨w.heap.size + 1 + 1 + 1, 6, none⟩) (by simp; omega) (.int .i64 n3)
  generalize hgen_w : World.setCell wn3 ⟨w.heap.size + 1 + 1 + 1, 6, none⟩ (.int .i64 n3) = wd3 at st3 lf3 ⊢
  clear h0 h1 h2 h3 h4 h5 h6 h7 h8 h9 h10 h11 a0 a1 a2 a3 e0 e1 e2 e3 e4 e5 e6 e7 e8 e9 f0 f1 f2 f3 f4 f5 f6 f7 f8 f9 i0 i1 i2 i3 i4 hgen_w sn3 le3 fc3
  obtain ⟨h0, h1, h2, h3, h4, h5, h6, h7, h8, h9, h10, h11, a0, a1, a2, a3⟩ := st3.args; obtain ⟨e0, e1, e2, e3, e4, e5, e6, e7, e8, e9⟩ := st3.ents; obtain ⟨f0, f1, f2, f3, f4, f5, f6, f7, f8, f9⟩ := st3.entsf
  obtain ⟨r0, r1, r2, r3, r4, r5, r6, r7, r8, r9⟩ := st3.ress; obtain ⟨rf0, rf1, rf2, rf3, rf4, rf5, rf6, rf7, rf8, rf9⟩ := st3.ressf
  clear hK
  rw [rounds_succ]
  rcases hkc with rfl | hkc
  · by_cases hf : form = 0
    · subst hf
      by_cases hsl : Lib.hasSuffix (textOf g l ⟨#[112, 97, 116, 104]⟩ nm (fullOf name pre)).data.toList [47] = true
      · have HSL := Lib.hid hsl; (go_wp2_with (go_at_call 112; refine (Tryz.strings_HasSuffix (textOf g l ⟨#[112, 97, 116, 104]⟩ nm (fullOf name pre)) ⟨#[47]⟩ _ hpath).mono ?_; rw [HSL.out]; rintro e wh ⟨rfl, rfl⟩)); all_goals ((try simp only [Exit.inBlock, Exit.then]); (refine make_rets ((((st3.setE 2 (.int .i64 4)).setE 7 (.int .i64 0)).setE 1 (.string ⟨#[]⟩))) _ _ _ _ _ _ _ _ _ _ _ rfl rfl ?_); (rw [HV.out, HQ0.out, HQ1.out, HQ2.out, HQ3.out]; unfold madeV; dsimp only; unfold finV; rw [if_pos rfl, if_pos ⟨rfl, HSL.out⟩]; (first | (rw [if_pos (by omega)]) | (rw [if_neg (by omega)])); (try rfl)))
      · have HSL := Lib.hid hsl; simp only [Bool.not_eq_true] at hsl; (go_wp2_with (go_at_call 112; refine (Tryz.strings_HasSuffix (textOf g l ⟨#[112, 97, 116, 104]⟩ nm (fullOf name pre)) ⟨#[47]⟩ _ hpath).mono ?_; rw [hsl]; rintro e wh ⟨rfl, rfl⟩)); all_goals ((try simp only [Exit.inBlock, Exit.then]); (refine make_rets (st3.setE 1 (.string ⟨#[]⟩)) _ _ _ _ _ _ _ _ _ _ _ rfl rfl ?_); (rw [HV.out, HQ0.out, HQ1.out, HQ2.out, HQ3.out]; unfold madeV; dsimp only; unfold finV; rw [if_pos rfl, if_neg (fun h => HSL.out h.2)]; (first | (rw [if_pos (by omega)]) | (rw [if_neg (by omega)])); (try rfl)))
    · have hf2 : (form == 0) = false := by simpa using hf
      have HF := Lib.hid hf; clear hf
      go_wp2_with fail; all_goals ((try simp only [Exit.inBlock, Exit.then]); (refine make_rets (st3.setE 1 (.string ⟨#[]⟩)) _ _ _ _ _ _ _ _ _ _ _ rfl rfl ?_); (rw [HV.out, HQ0.out, HQ1.out, HQ2.out, HQ3.out]; unfold madeV; dsimp only; unfold finV; rw [if_pos rfl, if_neg (fun h => HF.out h.1)]; (first | (rw [if_pos (by omega)]) | (rw [if_neg (by omega)])); (try rfl)))
  · rcases hkc with rfl | rfl | rfl
    · go_wp2_with fail; all_goals ((try simp only [Exit.inBlock, Exit.then]); (refine make_rets (st3.setE 7 (.int .i64 0)) _ _ _ _ _ _ _ _ _ _ _ rfl rfl ?_); (rw [HV.out, HQ0.out, HQ1.out, HQ2.out, HQ3.out]; unfold madeV; dsimp only; unfold finV; rw [if_neg (show ¬ (2 : Int) = 1 by decide), if_neg (show ¬ (2 : Int) = 4 by decide)]; (first | (rw [if_pos (by omega)]) | (rw [if_neg (by omega)])); (try rfl)))
    · go_wp2_with fail; all_goals ((try simp only [Exit.inBlock, Exit.then]); (refine make_rets (st3.setE 7 (.int .i64 0)) _ _ _ _ _ _ _ _ _ _ _ rfl rfl ?_); (rw [HV.out, HQ0.out, HQ1.out, HQ2.out, HQ3.out]; unfold madeV; dsimp only; unfold finV; rw [if_neg (show ¬ (3 : Int) = 1 by decide), if_neg (show ¬ (3 : Int) = 4 by decide)]; (first | (rw [if_pos (by omega)]) | (rw [if_neg (by omega)])); (try rfl)))
    · go_wp2_with fail; all_goals ((try simp only [Exit.inBlock, Exit.then]); (refine make_rets ((st3.setE 7 (.int .i64 0)).setE 1 (.string ⟨#[]⟩)) _ _ _ _ _ _ _ _ _ _ _ rfl rfl ?_); (rw [HV.out, HQ0.out, HQ1.out, HQ2.out, HQ3.out]; unfold madeV; dsimp only; unfold finV; rw [if_neg (show ¬ (4 : Int) = 1 by decide), if_pos rfl]; (first | (rw [if_pos (by omega)]) | (rw [if_neg (by omega)])); (try rfl)))
end Go.Proofs.YtpbpfngichfgeaaGreatDoor
