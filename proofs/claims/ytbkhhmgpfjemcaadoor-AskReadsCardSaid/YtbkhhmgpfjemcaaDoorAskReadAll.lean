/-
  Several texts in one: YtbkhhmgpfjemcaaDoorAskReadTFF, YtbkhhmgpfjemcaaDoorAskReadTTF, YtbkhhmgpfjemcaaDoorAskReadFFT, YtbkhhmgpfjemcaaDoorAskReadTTT.
-/
import Derived.Test.YtbkhhmgpfjemcaaDoorAskRead
namespace Go.Proofs.YtbkhhmgpfjemcaaDoor
set_option linter.unusedVariables false
set_option linter.unusedSimpArgs false
open Go.RowKit Go.Sort

set_option maxRecDepth 100000 in
set_option maxHeartbeats 8000000 in
theorem read_TFF (word : ByteArray) (k : Int) (bd bp : Bool) (s : ByteArray) (hs : s.size ≤ 100000) (w : World) (he : EnvE w) (R : Int × Int × Int × Int × ByteArray × List Int × Int) (hR : readOf k true false false bd bp s = some R) :
    Calls Tryd.prog 16 #[.agg #[.string word, .int .i64 k, .bool true, .bool false, .bool false, .bool bd, .bool bp], .string s] w (ReadEnd R.1 R.2.1 R.2.2.1 R.2.2.2.1 R.2.2.2.2.1 R.2.2.2.2.2.1 R.2.2.2.2.2.2 w) := by
  have HS0 := Lib.hid (RSt.first w #[.string word, .int .i64 k, .bool true, .bool false, .bool false, .bool bd, .bool bp] #[.int .i64 k, .int .i64 0, .int .i64 0, .int .i64 0, .string ⟨#[]⟩, .slice none 0 0] #[.bool true, .pointer (some ⟨w.heap.size + 1 + 1, 1, none⟩), .bool false, .pointer (some ⟨w.heap.size + 1 + 1, 2, none⟩), .bool false, .pointer (some ⟨w.heap.size + 1 + 1, 3, none⟩)])
  have HE := Lib.hid he
  simp only [readOf, stepN, if_true, Bool.false_eq_true, if_false] at hR
  obtain ⟨u0, s0, hu0⟩ : ∃ u s', nextOf s = (u, s') := ⟨_, _, rfl⟩
  obtain ⟨n0, e0, hn0⟩ : ∃ n e, askNum u0 = (n, e) := ⟨_, _, rfl⟩
  have hle0 := next_le _ _ _ hu0
  simp only [hu0, hn0] at hR
  have HU0 := Lib.hid hu0; have HN0 := Lib.hid hn0; clear hu0 hn0
  have HR := Lib.hid hR
  clear he hR
  go_enter Tryd.func16, Tryd.ntmps16
  go_wp2_with fail
  have st0 := HS0.out
  generalize hgw : (((w.alloc (.cells #[.string word, .int .i64 k, .bool true, .bool false, .bool false, .bool bd, .bool bp] 47)).alloc (.cells #[.int .i64 0, .int .i64 0, .int .i64 0, .int .i64 0, .string ⟨#[]⟩, .slice none 0 0] 25)).alloc (.cells #[.int .i64 k, .int .i64 0, .int .i64 0, .int .i64 0, .string ⟨#[]⟩, .slice none 0 0] 25)).alloc (.cells #[.bool true, .pointer (some ⟨w.heap.size + 1 + 1, 1, none⟩), .bool false, .pointer (some ⟨w.heap.size + 1 + 1, 2, none⟩), .bool false, .pointer (some ⟨w.heap.size + 1 + 1, 3, none⟩)] 57) = wB at st0 ⊢
  clear hgw
  refine wp_loop_rounds 5 ?_
  have lc0 := st0.l.cell 0; have lc1 := st0.l.cell 1; have i0 := st0.l.lt
  have sc := st0.alloc (.cells #[.bool true, .pointer (some ⟨w.heap.size + 1 + 1, 1, none⟩)] 57)
  rw [rounds_succ]
  go_wp2_with fail
  have fb : Blk (wB.alloc (.cells #[.bool true, .pointer (some ⟨w.heap.size + 1 + 1, 1, none⟩)] 57)) wB.heap.size 57 #[.bool true, .pointer (some ⟨w.heap.size + 1 + 1, 1, none⟩)] := Blk.new _ _ _
  refine (next_any s (by omega) _ (HE.out.env.below sc.b) u0 s0 HU0.out).mono ?_
  rintro e wn ⟨rfl, hbn⟩
  have sn := sc.next hbn; have fn := fb.below hbn fb.lt
  clear fb sc hbn lc0 lc1 i0 st0
  generalize wB.heap.size = gb at fn ⊢
  go_wp2_with fail
  refine (askNumber_any u0 (by omega) _ (HE.out.below sn.b)).mono ?_
  rw [HN0.out]
  rintro e wm ⟨rfl, hbm⟩
  have sm := sn.next hbm; have fc := (fn.below hbm fn.lt).cell 1
  clear sn fn hbm
  by_cases he0 : e0 = 0
  rotate_left
  · have hq : (e0 == 0) = false := by simpa using he0
    have hq2 : (e0 != 0) = true := by simpa using he0
    have r0 := sm.r.cell 0; have r1 := sm.r.cell 1; have r2 := sm.r.cell 2; have r3 := sm.r.cell 3; have r4 := sm.r.cell 4; have r5 := sm.r.cell 5
    have f0 := sm.r.frozen 0; have f1 := sm.r.frozen 1; have f2 := sm.r.frozen 2; have f3 := sm.r.frozen 3; have f4 := sm.r.frozen 4; have f5 := sm.r.frozen 5
    go_wp2_with fail
    try simp only [Exit.inBlock, Exit.then]
    refine read_rets sm _ _ _ _ _ _ rfl ?_
    refine readEnd_nil ?_ rfl (below_row sm.b _ (by omega) _ _ _ _ _ _)
    have h := HR.out
    rw [if_pos he0] at h
    exact Option.some.inj h
  have hz0 : e0 = 0 := he0
  subst hz0
  clear he0
  have ec := sm.e.cell 1; have ef := sm.e.frozen 1; have i1 := sm.l.lt; have i2 := sm.e.lt
  have st1 := sm.setE 1 (.int .i64 n0)
  go_wp2_with fail
  generalize hgw : World.setCell wm ⟨w.heap.size + 1 + 1, 1, none⟩ (.int .i64 n0) = w1 at st1 ⊢
  clear ec ef i1 i2 sm fc hgw
  try simp at st1
  have lc0 := st1.l.cell 2; have lc1 := st1.l.cell 3; have i0 := st1.l.lt
  have sc := st1.alloc (.cells #[.bool false, .pointer (some ⟨w.heap.size + 1 + 1, 2, none⟩)] 57)
  rw [rounds_succ]
  go_wp2_with fail
  have st2 := sc
  generalize hgw : w1.alloc (.cells #[.bool false, .pointer (some ⟨w.heap.size + 1 + 1, 2, none⟩)] 57) = w2 at st2 ⊢
  clear sc lc0 lc1 i0 st1 hgw
  try simp at st2
  have lc0 := st2.l.cell 4; have lc1 := st2.l.cell 5; have i0 := st2.l.lt
  have sc := st2.alloc (.cells #[.bool false, .pointer (some ⟨w.heap.size + 1 + 1, 3, none⟩)] 57)
  rw [rounds_succ]
  go_wp2_with fail
  have st3 := sc
  generalize hgw : w2.alloc (.cells #[.bool false, .pointer (some ⟨w.heap.size + 1 + 1, 3, none⟩)] 57) = w3 at st3 ⊢
  clear sc lc0 lc1 i0 st2 hgw
  try simp at st3
  have hR := HR.out
  rw [if_neg (fun h => h rfl)] at hR
  rw [if_neg (fun h => h rfl)] at hR
  rw [if_neg (fun h => h rfl)] at hR
  cases bp with
  | true =>
    rw [if_pos rfl] at hR
    have HR3 := Lib.hid hR; clear hR
    have s4 := st3.setE 4 (.string s0)
    simp at s4
    have h5 := st3.h.cell 5; have h6 := st3.h.cell 6; have c0 := st3.e.cell 0; have c1 := st3.e.cell 1; have c2 := st3.e.cell 2; have c3 := st3.e.cell 3; have c4 := st3.e.cell 4; have c5 := st3.e.cell 5; have g4 := st3.e.frozen 4; have g5 := st3.e.frozen 5; have r0 := st3.r.cell 0; have r1 := st3.r.cell 1; have r2 := st3.r.cell 2; have r3 := st3.r.cell 3; have r4 := st3.r.cell 4; have r5 := st3.r.cell 5; have f0 := st3.r.frozen 0; have f1 := st3.r.frozen 1; have f2 := st3.r.frozen 2; have f3 := st3.r.frozen 3; have f4 := st3.r.frozen 4; have f5 := st3.r.frozen 5
    rw [rounds_succ]
    go_wp2_with fail
    try simp only [Exit.inBlock, Exit.then]
    refine read_rets s4 _ _ _ _ _ _ rfl ?_
    exact readEnd_nil (Option.some.inj HR3.out) rfl (below_row s4.b _ (by omega) _ _ _ _ _ _)
  | false =>
    rw [if_neg (by decide)] at hR
    cases bd with
    | false =>
      rw [if_neg (by decide)] at hR
      by_cases hs3 : s0 = ⟨#[]⟩
      · rw [if_neg (fun h => h hs3)] at hR
        have HR3 := Lib.hid hR; clear hR
        subst hs3
        have h5 := st3.h.cell 5; have h6 := st3.h.cell 6; have c0 := st3.e.cell 0; have c1 := st3.e.cell 1; have c2 := st3.e.cell 2; have c3 := st3.e.cell 3; have c4 := st3.e.cell 4; have c5 := st3.e.cell 5; have g4 := st3.e.frozen 4; have g5 := st3.e.frozen 5; have r0 := st3.r.cell 0; have r1 := st3.r.cell 1; have r2 := st3.r.cell 2; have r3 := st3.r.cell 3; have r4 := st3.r.cell 4; have r5 := st3.r.cell 5; have f0 := st3.r.frozen 0; have f1 := st3.r.frozen 1; have f2 := st3.r.frozen 2; have f3 := st3.r.frozen 3; have f4 := st3.r.frozen 4; have f5 := st3.r.frozen 5
        rw [rounds_succ]
        go_wp2_with fail
        try simp only [Exit.inBlock, Exit.then]
        refine read_rets st3 _ _ _ _ _ _ rfl ?_
        exact readEnd_nil (Option.some.inj HR3.out) rfl (below_row st3.b _ (by omega) _ _ _ _ _ _)
      · rw [if_pos hs3] at hR
        have HR3 := Lib.hid hR; clear hR
        have hne := str_nonempty.2 hs3
        clear hs3
        have h5 := st3.h.cell 5; have h6 := st3.h.cell 6; have c0 := st3.e.cell 0; have c1 := st3.e.cell 1; have c2 := st3.e.cell 2; have c3 := st3.e.cell 3; have c4 := st3.e.cell 4; have c5 := st3.e.cell 5; have g4 := st3.e.frozen 4; have g5 := st3.e.frozen 5; have r0 := st3.r.cell 0; have r1 := st3.r.cell 1; have r2 := st3.r.cell 2; have r3 := st3.r.cell 3; have r4 := st3.r.cell 4; have r5 := st3.r.cell 5; have f0 := st3.r.frozen 0; have f1 := st3.r.frozen 1; have f2 := st3.r.frozen 2; have f3 := st3.r.frozen 3; have f4 := st3.r.frozen 4; have f5 := st3.r.frozen 5
        rw [rounds_succ]
        go_wp2_with fail
        try simp only [Exit.inBlock, Exit.then]
        refine read_rets st3 _ _ _ _ _ _ rfl ?_
        exact readEnd_nil (Option.some.inj HR3.out) rfl (below_row st3.b _ (by omega) _ _ _ _ _ _)
    | true =>
      rw [if_pos rfl] at hR
      obtain ⟨⟨bs, eb⟩, hd, hR⟩ := Option.bind_eq_some_iff.1 hR
      have HD := Lib.hid hd; clear hd
      have h5 := st3.h.cell 5; have h6 := st3.h.cell 6; have c0 := st3.e.cell 0; have c1 := st3.e.cell 1; have c2 := st3.e.cell 2; have c3 := st3.e.cell 3; have c4 := st3.e.cell 4; have c5 := st3.e.cell 5; have g4 := st3.e.frozen 4; have g5 := st3.e.frozen 5; have r0 := st3.r.cell 0; have r1 := st3.r.cell 1; have r2 := st3.r.cell 2; have r3 := st3.r.cell 3; have r4 := st3.r.cell 4; have r5 := st3.r.cell 5; have f0 := st3.r.frozen 0; have f1 := st3.r.frozen 1; have f2 := st3.r.frozen 2; have f3 := st3.r.frozen 3; have f4 := st3.r.frozen 4; have f5 := st3.r.frozen 5
      rw [rounds_succ]
      go_wp2_with fail
      clear h5 h6 c0 c1 c2 c3 c4 c5 g4 g5 r0 r1 r2 r3 r4 r5 f0 f1 f2 f3 f4 f5
      refine (PAskA.ask_data.calls 20000 s0 bs eb _ HD.out).mono ?_
      rintro e w4 ⟨v0, rfl, hv0, hb4⟩
      have s5 := st3.next hb4
      have hlt := st3.l.lt
      have HV0 := Lib.hid hv0
      have hvs := YtbkhhmgpfjemcaaDoorW.PrintWords.Kd.R_slice hv0
      obtain ⟨A0, c0', rfl⟩ := hvs
      clear hv0 hb4
      generalize w3.heap.size = B3 at HV0 hlt
      clear st3
      have h5 := s5.h.cell 5; have h6 := s5.h.cell 6; have c0 := s5.e.cell 0; have c1 := s5.e.cell 1; have c2 := s5.e.cell 2; have c3 := s5.e.cell 3; have c4 := s5.e.cell 4; have c5 := s5.e.cell 5; have g4 := s5.e.frozen 4; have g5 := s5.e.frozen 5; have r0 := s5.r.cell 0; have r1 := s5.r.cell 1; have r2 := s5.r.cell 2; have r3 := s5.r.cell 3; have r4 := s5.r.cell 4; have r5 := s5.r.cell 5; have f0 := s5.r.frozen 0; have f1 := s5.r.frozen 1; have f2 := s5.r.frozen 2; have f3 := s5.r.frozen 3; have f4 := s5.r.frozen 4; have f5 := s5.r.frozen 5
      by_cases heb : eb = 0
      rotate_left
      · have hq : (eb == 0) = false := by simpa using heb
        have hq2 : (eb != 0) = true := by simpa using heb
        try simp only at hR
        rw [if_pos heb] at hR
        have HR3 := Lib.hid hR; clear hR heb
        go_wp2_with fail
        try simp only [Exit.inBlock, Exit.then]
        refine read_rets s5 _ _ _ _ _ _ rfl ?_
        exact readEnd_nil (Option.some.inj HR3.out) rfl (below_row s5.b _ (by omega) _ _ _ _ _ _)
      · try simp only at hR
        rw [if_neg (fun h => h heb)] at hR
        subst heb
        have HR3 := Lib.hid hR; clear hR
        have s6 := s5.setE 5 (.slice A0 bs.length c0')
        simp at s6
        go_wp2_with fail
        try simp only [Exit.inBlock, Exit.then]
        refine read_rets s6 _ _ _ _ _ _ rfl ?_
        have h3 := Option.some.inj HR3.out
        subst h3
        exact ⟨_, rfl, row_kept (g := 0) HV0.out (by omega) trivial, below_row s6.b _ (by omega) _ _ _ _ _ _⟩
end Go.Proofs.YtbkhhmgpfjemcaaDoor

namespace Go.Proofs.YtbkhhmgpfjemcaaDoor
set_option linter.unusedVariables false
set_option linter.unusedSimpArgs false
open Go.RowKit Go.Sort

set_option maxRecDepth 100000 in
set_option maxHeartbeats 8000000 in
theorem read_TTF (word : ByteArray) (k : Int) (bd bp : Bool) (s : ByteArray) (hs : s.size ≤ 100000) (w : World) (he : EnvE w) (R : Int × Int × Int × Int × ByteArray × List Int × Int) (hR : readOf k true true false bd bp s = some R) :
    Calls Tryd.prog 16 #[.agg #[.string word, .int .i64 k, .bool true, .bool true, .bool false, .bool bd, .bool bp], .string s] w (ReadEnd R.1 R.2.1 R.2.2.1 R.2.2.2.1 R.2.2.2.2.1 R.2.2.2.2.2.1 R.2.2.2.2.2.2 w) := by
  have HS0 := Lib.hid (RSt.first w #[.string word, .int .i64 k, .bool true, .bool true, .bool false, .bool bd, .bool bp] #[.int .i64 k, .int .i64 0, .int .i64 0, .int .i64 0, .string ⟨#[]⟩, .slice none 0 0] #[.bool true, .pointer (some ⟨w.heap.size + 1 + 1, 1, none⟩), .bool true, .pointer (some ⟨w.heap.size + 1 + 1, 2, none⟩), .bool false, .pointer (some ⟨w.heap.size + 1 + 1, 3, none⟩)])
  have HE := Lib.hid he
  simp only [readOf, stepN, if_true, Bool.false_eq_true, if_false] at hR
  obtain ⟨u0, s0, hu0⟩ : ∃ u s', nextOf s = (u, s') := ⟨_, _, rfl⟩
  obtain ⟨n0, e0, hn0⟩ : ∃ n e, askNum u0 = (n, e) := ⟨_, _, rfl⟩
  have hle0 := next_le _ _ _ hu0
  simp only [hu0, hn0] at hR
  have HU0 := Lib.hid hu0; have HN0 := Lib.hid hn0; clear hu0 hn0
  obtain ⟨u1, s1, hu1⟩ : ∃ u s', nextOf s0 = (u, s') := ⟨_, _, rfl⟩
  obtain ⟨n1, e1, hn1⟩ : ∃ n e, askNum u1 = (n, e) := ⟨_, _, rfl⟩
  have hle1 := next_le _ _ _ hu1
  simp only [hu1, hn1] at hR
  have HU1 := Lib.hid hu1; have HN1 := Lib.hid hn1; clear hu1 hn1
  have HR := Lib.hid hR
  clear he hR
  go_enter Tryd.func16, Tryd.ntmps16
  go_wp2_with fail
  have st0 := HS0.out
  generalize hgw : (((w.alloc (.cells #[.string word, .int .i64 k, .bool true, .bool true, .bool false, .bool bd, .bool bp] 47)).alloc (.cells #[.int .i64 0, .int .i64 0, .int .i64 0, .int .i64 0, .string ⟨#[]⟩, .slice none 0 0] 25)).alloc (.cells #[.int .i64 k, .int .i64 0, .int .i64 0, .int .i64 0, .string ⟨#[]⟩, .slice none 0 0] 25)).alloc (.cells #[.bool true, .pointer (some ⟨w.heap.size + 1 + 1, 1, none⟩), .bool true, .pointer (some ⟨w.heap.size + 1 + 1, 2, none⟩), .bool false, .pointer (some ⟨w.heap.size + 1 + 1, 3, none⟩)] 57) = wB at st0 ⊢
  clear hgw
  refine wp_loop_rounds 5 ?_
  have lc0 := st0.l.cell 0; have lc1 := st0.l.cell 1; have i0 := st0.l.lt
  have sc := st0.alloc (.cells #[.bool true, .pointer (some ⟨w.heap.size + 1 + 1, 1, none⟩)] 57)
  rw [rounds_succ]
  go_wp2_with fail
  have fb : Blk (wB.alloc (.cells #[.bool true, .pointer (some ⟨w.heap.size + 1 + 1, 1, none⟩)] 57)) wB.heap.size 57 #[.bool true, .pointer (some ⟨w.heap.size + 1 + 1, 1, none⟩)] := Blk.new _ _ _
  refine (next_any s (by omega) _ (HE.out.env.below sc.b) u0 s0 HU0.out).mono ?_
  rintro e wn ⟨rfl, hbn⟩
  have sn := sc.next hbn; have fn := fb.below hbn fb.lt
  clear fb sc hbn lc0 lc1 i0 st0
  generalize wB.heap.size = gb at fn ⊢
  go_wp2_with fail
  refine (askNumber_any u0 (by omega) _ (HE.out.below sn.b)).mono ?_
  rw [HN0.out]
  rintro e wm ⟨rfl, hbm⟩
  have sm := sn.next hbm; have fc := (fn.below hbm fn.lt).cell 1
  clear sn fn hbm
  by_cases he0 : e0 = 0
  rotate_left
  · have hq : (e0 == 0) = false := by simpa using he0
    have hq2 : (e0 != 0) = true := by simpa using he0
    have r0 := sm.r.cell 0; have r1 := sm.r.cell 1; have r2 := sm.r.cell 2; have r3 := sm.r.cell 3; have r4 := sm.r.cell 4; have r5 := sm.r.cell 5
    have f0 := sm.r.frozen 0; have f1 := sm.r.frozen 1; have f2 := sm.r.frozen 2; have f3 := sm.r.frozen 3; have f4 := sm.r.frozen 4; have f5 := sm.r.frozen 5
    go_wp2_with fail
    try simp only [Exit.inBlock, Exit.then]
    refine read_rets sm _ _ _ _ _ _ rfl ?_
    refine readEnd_nil ?_ rfl (below_row sm.b _ (by omega) _ _ _ _ _ _)
    have h := HR.out
    rw [if_pos he0] at h
    exact Option.some.inj h
  have hz0 : e0 = 0 := he0
  subst hz0
  clear he0
  have ec := sm.e.cell 1; have ef := sm.e.frozen 1; have i1 := sm.l.lt; have i2 := sm.e.lt
  have st1 := sm.setE 1 (.int .i64 n0)
  go_wp2_with fail
  generalize hgw : World.setCell wm ⟨w.heap.size + 1 + 1, 1, none⟩ (.int .i64 n0) = w1 at st1 ⊢
  clear ec ef i1 i2 sm fc hgw
  try simp at st1
  have lc0 := st1.l.cell 2; have lc1 := st1.l.cell 3; have i0 := st1.l.lt
  have sc := st1.alloc (.cells #[.bool true, .pointer (some ⟨w.heap.size + 1 + 1, 2, none⟩)] 57)
  rw [rounds_succ]
  go_wp2_with fail
  have fb : Blk (w1.alloc (.cells #[.bool true, .pointer (some ⟨w.heap.size + 1 + 1, 2, none⟩)] 57)) w1.heap.size 57 #[.bool true, .pointer (some ⟨w.heap.size + 1 + 1, 2, none⟩)] := Blk.new _ _ _
  refine (next_any s0 (by omega) _ (HE.out.env.below sc.b) u1 s1 HU1.out).mono ?_
  rintro e wn ⟨rfl, hbn⟩
  have sn := sc.next hbn; have fn := fb.below hbn fb.lt
  clear fb sc hbn lc0 lc1 i0 st1
  generalize w1.heap.size = gb at fn ⊢
  go_wp2_with fail
  refine (askNumber_any u1 (by omega) _ (HE.out.below sn.b)).mono ?_
  rw [HN1.out]
  rintro e wm ⟨rfl, hbm⟩
  have sm := sn.next hbm; have fc := (fn.below hbm fn.lt).cell 1
  clear sn fn hbm
  by_cases he1 : e1 = 0
  rotate_left
  · have hq : (e1 == 0) = false := by simpa using he1
    have hq2 : (e1 != 0) = true := by simpa using he1
    have r0 := sm.r.cell 0; have r1 := sm.r.cell 1; have r2 := sm.r.cell 2; have r3 := sm.r.cell 3; have r4 := sm.r.cell 4; have r5 := sm.r.cell 5
    have f0 := sm.r.frozen 0; have f1 := sm.r.frozen 1; have f2 := sm.r.frozen 2; have f3 := sm.r.frozen 3; have f4 := sm.r.frozen 4; have f5 := sm.r.frozen 5
    go_wp2_with fail
    try simp only [Exit.inBlock, Exit.then]
    refine read_rets sm _ _ _ _ _ _ rfl ?_
    refine readEnd_nil ?_ rfl (below_row sm.b _ (by omega) _ _ _ _ _ _)
    have h := HR.out
    rw [if_neg (fun h => h rfl)] at h
    rw [if_pos he1] at h
    exact Option.some.inj h
  have hz1 : e1 = 0 := he1
  subst hz1
  clear he1
  have ec := sm.e.cell 2; have ef := sm.e.frozen 2; have i1 := sm.l.lt; have i2 := sm.e.lt
  have st2 := sm.setE 2 (.int .i64 n1)
  go_wp2_with fail
  generalize hgw : World.setCell wm ⟨w.heap.size + 1 + 1, 2, none⟩ (.int .i64 n1) = w2 at st2 ⊢
  clear ec ef i1 i2 sm fc hgw
  try simp at st2
  have lc0 := st2.l.cell 4; have lc1 := st2.l.cell 5; have i0 := st2.l.lt
  have sc := st2.alloc (.cells #[.bool false, .pointer (some ⟨w.heap.size + 1 + 1, 3, none⟩)] 57)
  rw [rounds_succ]
  go_wp2_with fail
  have st3 := sc
  generalize hgw : w2.alloc (.cells #[.bool false, .pointer (some ⟨w.heap.size + 1 + 1, 3, none⟩)] 57) = w3 at st3 ⊢
  clear sc lc0 lc1 i0 st2 hgw
  try simp at st3
  have hR := HR.out
  rw [if_neg (fun h => h rfl)] at hR
  rw [if_neg (fun h => h rfl)] at hR
  rw [if_neg (fun h => h rfl)] at hR
  cases bp with
  | true =>
    rw [if_pos rfl] at hR
    have HR3 := Lib.hid hR; clear hR
    have s4 := st3.setE 4 (.string s1)
    simp at s4
    have h5 := st3.h.cell 5; have h6 := st3.h.cell 6; have c0 := st3.e.cell 0; have c1 := st3.e.cell 1; have c2 := st3.e.cell 2; have c3 := st3.e.cell 3; have c4 := st3.e.cell 4; have c5 := st3.e.cell 5; have g4 := st3.e.frozen 4; have g5 := st3.e.frozen 5; have r0 := st3.r.cell 0; have r1 := st3.r.cell 1; have r2 := st3.r.cell 2; have r3 := st3.r.cell 3; have r4 := st3.r.cell 4; have r5 := st3.r.cell 5; have f0 := st3.r.frozen 0; have f1 := st3.r.frozen 1; have f2 := st3.r.frozen 2; have f3 := st3.r.frozen 3; have f4 := st3.r.frozen 4; have f5 := st3.r.frozen 5
    rw [rounds_succ]
    go_wp2_with fail
    try simp only [Exit.inBlock, Exit.then]
    refine read_rets s4 _ _ _ _ _ _ rfl ?_
    exact readEnd_nil (Option.some.inj HR3.out) rfl (below_row s4.b _ (by omega) _ _ _ _ _ _)
  | false =>
    rw [if_neg (by decide)] at hR
    cases bd with
    | false =>
      rw [if_neg (by decide)] at hR
      by_cases hs3 : s1 = ⟨#[]⟩
      · rw [if_neg (fun h => h hs3)] at hR
        have HR3 := Lib.hid hR; clear hR
        subst hs3
        have h5 := st3.h.cell 5; have h6 := st3.h.cell 6; have c0 := st3.e.cell 0; have c1 := st3.e.cell 1; have c2 := st3.e.cell 2; have c3 := st3.e.cell 3; have c4 := st3.e.cell 4; have c5 := st3.e.cell 5; have g4 := st3.e.frozen 4; have g5 := st3.e.frozen 5; have r0 := st3.r.cell 0; have r1 := st3.r.cell 1; have r2 := st3.r.cell 2; have r3 := st3.r.cell 3; have r4 := st3.r.cell 4; have r5 := st3.r.cell 5; have f0 := st3.r.frozen 0; have f1 := st3.r.frozen 1; have f2 := st3.r.frozen 2; have f3 := st3.r.frozen 3; have f4 := st3.r.frozen 4; have f5 := st3.r.frozen 5
        rw [rounds_succ]
        go_wp2_with fail
        try simp only [Exit.inBlock, Exit.then]
        refine read_rets st3 _ _ _ _ _ _ rfl ?_
        exact readEnd_nil (Option.some.inj HR3.out) rfl (below_row st3.b _ (by omega) _ _ _ _ _ _)
      · rw [if_pos hs3] at hR
        have HR3 := Lib.hid hR; clear hR
        have hne := str_nonempty.2 hs3
        clear hs3
        have h5 := st3.h.cell 5; have h6 := st3.h.cell 6; have c0 := st3.e.cell 0; have c1 := st3.e.cell 1; have c2 := st3.e.cell 2; have c3 := st3.e.cell 3; have c4 := st3.e.cell 4; have c5 := st3.e.cell 5; have g4 := st3.e.frozen 4; have g5 := st3.e.frozen 5; have r0 := st3.r.cell 0; have r1 := st3.r.cell 1; have r2 := st3.r.cell 2; have r3 := st3.r.cell 3; have r4 := st3.r.cell 4; have r5 := st3.r.cell 5; have f0 := st3.r.frozen 0; have f1 := st3.r.frozen 1; have f2 := st3.r.frozen 2; have f3 := st3.r.frozen 3; have f4 := st3.r.frozen 4; have f5 := st3.r.frozen 5
        rw [rounds_succ]
        go_wp2_with fail
        try simp only [Exit.inBlock, Exit.then]
        refine read_rets st3 _ _ _ _ _ _ rfl ?_
        exact readEnd_nil (Option.some.inj HR3.out) rfl (below_row st3.b _ (by omega) _ _ _ _ _ _)
    | true =>
      rw [if_pos rfl] at hR
      obtain ⟨⟨bs, eb⟩, hd, hR⟩ := Option.bind_eq_some_iff.1 hR
      have HD := Lib.hid hd; clear hd
      have h5 := st3.h.cell 5; have h6 := st3.h.cell 6; have c0 := st3.e.cell 0; have c1 := st3.e.cell 1; have c2 := st3.e.cell 2; have c3 := st3.e.cell 3; have c4 := st3.e.cell 4; have c5 := st3.e.cell 5; have g4 := st3.e.frozen 4; have g5 := st3.e.frozen 5; have r0 := st3.r.cell 0; have r1 := st3.r.cell 1; have r2 := st3.r.cell 2; have r3 := st3.r.cell 3; have r4 := st3.r.cell 4; have r5 := st3.r.cell 5; have f0 := st3.r.frozen 0; have f1 := st3.r.frozen 1; have f2 := st3.r.frozen 2; have f3 := st3.r.frozen 3; have f4 := st3.r.frozen 4; have f5 := st3.r.frozen 5
      rw [rounds_succ]
      go_wp2_with fail
      clear h5 h6 c0 c1 c2 c3 c4 c5 g4 g5 r0 r1 r2 r3 r4 r5 f0 f1 f2 f3 f4 f5
      refine (PAskA.ask_data.calls 20000 s1 bs eb _ HD.out).mono ?_
      rintro e w4 ⟨v0, rfl, hv0, hb4⟩
      have s5 := st3.next hb4
      have hlt := st3.l.lt
      have HV0 := Lib.hid hv0
      have hvs := YtbkhhmgpfjemcaaDoorW.PrintWords.Kd.R_slice hv0
      obtain ⟨A0, c0', rfl⟩ := hvs
      clear hv0 hb4
      generalize w3.heap.size = B3 at HV0 hlt
      clear st3
      have h5 := s5.h.cell 5; have h6 := s5.h.cell 6; have c0 := s5.e.cell 0; have c1 := s5.e.cell 1; have c2 := s5.e.cell 2; have c3 := s5.e.cell 3; have c4 := s5.e.cell 4; have c5 := s5.e.cell 5; have g4 := s5.e.frozen 4; have g5 := s5.e.frozen 5; have r0 := s5.r.cell 0; have r1 := s5.r.cell 1; have r2 := s5.r.cell 2; have r3 := s5.r.cell 3; have r4 := s5.r.cell 4; have r5 := s5.r.cell 5; have f0 := s5.r.frozen 0; have f1 := s5.r.frozen 1; have f2 := s5.r.frozen 2; have f3 := s5.r.frozen 3; have f4 := s5.r.frozen 4; have f5 := s5.r.frozen 5
      by_cases heb : eb = 0
      rotate_left
      · have hq : (eb == 0) = false := by simpa using heb
        have hq2 : (eb != 0) = true := by simpa using heb
        try simp only at hR
        rw [if_pos heb] at hR
        have HR3 := Lib.hid hR; clear hR heb
        go_wp2_with fail
        try simp only [Exit.inBlock, Exit.then]
        refine read_rets s5 _ _ _ _ _ _ rfl ?_
        exact readEnd_nil (Option.some.inj HR3.out) rfl (below_row s5.b _ (by omega) _ _ _ _ _ _)
      · try simp only at hR
        rw [if_neg (fun h => h heb)] at hR
        subst heb
        have HR3 := Lib.hid hR; clear hR
        have s6 := s5.setE 5 (.slice A0 bs.length c0')
        simp at s6
        go_wp2_with fail
        try simp only [Exit.inBlock, Exit.then]
        refine read_rets s6 _ _ _ _ _ _ rfl ?_
        have h3 := Option.some.inj HR3.out
        subst h3
        exact ⟨_, rfl, row_kept (g := 0) HV0.out (by omega) trivial, below_row s6.b _ (by omega) _ _ _ _ _ _⟩
end Go.Proofs.YtbkhhmgpfjemcaaDoor

namespace Go.Proofs.YtbkhhmgpfjemcaaDoor
set_option linter.unusedVariables false
set_option linter.unusedSimpArgs false
open Go.RowKit Go.Sort

set_option maxRecDepth 100000 in
set_option maxHeartbeats 8000000 in
theorem read_FFT (word : ByteArray) (k : Int) (bd bp : Bool) (s : ByteArray) (hs : s.size ≤ 100000) (w : World) (he : EnvE w) (R : Int × Int × Int × Int × ByteArray × List Int × Int) (hR : readOf k false false true bd bp s = some R) :
    Calls Tryd.prog 16 #[.agg #[.string word, .int .i64 k, .bool false, .bool false, .bool true, .bool bd, .bool bp], .string s] w (ReadEnd R.1 R.2.1 R.2.2.1 R.2.2.2.1 R.2.2.2.2.1 R.2.2.2.2.2.1 R.2.2.2.2.2.2 w) := by
  have HS0 := Lib.hid (RSt.first w #[.string word, .int .i64 k, .bool false, .bool false, .bool true, .bool bd, .bool bp] #[.int .i64 k, .int .i64 0, .int .i64 0, .int .i64 0, .string ⟨#[]⟩, .slice none 0 0] #[.bool false, .pointer (some ⟨w.heap.size + 1 + 1, 1, none⟩), .bool false, .pointer (some ⟨w.heap.size + 1 + 1, 2, none⟩), .bool true, .pointer (some ⟨w.heap.size + 1 + 1, 3, none⟩)])
  have HE := Lib.hid he
  simp only [readOf, stepN, if_true, Bool.false_eq_true, if_false] at hR
  obtain ⟨u2, s2, hu2⟩ : ∃ u s', nextOf s = (u, s') := ⟨_, _, rfl⟩
  obtain ⟨n2, e2, hn2⟩ : ∃ n e, askNum u2 = (n, e) := ⟨_, _, rfl⟩
  have hle2 := next_le _ _ _ hu2
  simp only [hu2, hn2] at hR
  have HU2 := Lib.hid hu2; have HN2 := Lib.hid hn2; clear hu2 hn2
  have HR := Lib.hid hR
  clear he hR
  go_enter Tryd.func16, Tryd.ntmps16
  go_wp2_with fail
  have st0 := HS0.out
  generalize hgw : (((w.alloc (.cells #[.string word, .int .i64 k, .bool false, .bool false, .bool true, .bool bd, .bool bp] 47)).alloc (.cells #[.int .i64 0, .int .i64 0, .int .i64 0, .int .i64 0, .string ⟨#[]⟩, .slice none 0 0] 25)).alloc (.cells #[.int .i64 k, .int .i64 0, .int .i64 0, .int .i64 0, .string ⟨#[]⟩, .slice none 0 0] 25)).alloc (.cells #[.bool false, .pointer (some ⟨w.heap.size + 1 + 1, 1, none⟩), .bool false, .pointer (some ⟨w.heap.size + 1 + 1, 2, none⟩), .bool true, .pointer (some ⟨w.heap.size + 1 + 1, 3, none⟩)] 57) = wB at st0 ⊢
  clear hgw
  refine wp_loop_rounds 5 ?_
  have lc0 := st0.l.cell 0; have lc1 := st0.l.cell 1; have i0 := st0.l.lt
  have sc := st0.alloc (.cells #[.bool false, .pointer (some ⟨w.heap.size + 1 + 1, 1, none⟩)] 57)
  rw [rounds_succ]
  go_wp2_with fail
  have st1 := sc
  generalize hgw : wB.alloc (.cells #[.bool false, .pointer (some ⟨w.heap.size + 1 + 1, 1, none⟩)] 57) = w1 at st1 ⊢
  clear sc lc0 lc1 i0 st0 hgw
  try simp at st1
  have lc0 := st1.l.cell 2; have lc1 := st1.l.cell 3; have i0 := st1.l.lt
  have sc := st1.alloc (.cells #[.bool false, .pointer (some ⟨w.heap.size + 1 + 1, 2, none⟩)] 57)
  rw [rounds_succ]
  go_wp2_with fail
  have st2 := sc
  generalize hgw : w1.alloc (.cells #[.bool false, .pointer (some ⟨w.heap.size + 1 + 1, 2, none⟩)] 57) = w2 at st2 ⊢
  clear sc lc0 lc1 i0 st1 hgw
  try simp at st2
  have lc0 := st2.l.cell 4; have lc1 := st2.l.cell 5; have i0 := st2.l.lt
  have sc := st2.alloc (.cells #[.bool true, .pointer (some ⟨w.heap.size + 1 + 1, 3, none⟩)] 57)
  rw [rounds_succ]
  go_wp2_with fail
  have fb : Blk (w2.alloc (.cells #[.bool true, .pointer (some ⟨w.heap.size + 1 + 1, 3, none⟩)] 57)) w2.heap.size 57 #[.bool true, .pointer (some ⟨w.heap.size + 1 + 1, 3, none⟩)] := Blk.new _ _ _
  refine (next_any s (by omega) _ (HE.out.env.below sc.b) u2 s2 HU2.out).mono ?_
  rintro e wn ⟨rfl, hbn⟩
  have sn := sc.next hbn; have fn := fb.below hbn fb.lt
  clear fb sc hbn lc0 lc1 i0 st2
  generalize w2.heap.size = gb at fn ⊢
  go_wp2_with fail
  refine (askNumber_any u2 (by omega) _ (HE.out.below sn.b)).mono ?_
  rw [HN2.out]
  rintro e wm ⟨rfl, hbm⟩
  have sm := sn.next hbm; have fc := (fn.below hbm fn.lt).cell 1
  clear sn fn hbm
  by_cases he2 : e2 = 0
  rotate_left
  · have hq : (e2 == 0) = false := by simpa using he2
    have hq2 : (e2 != 0) = true := by simpa using he2
    have r0 := sm.r.cell 0; have r1 := sm.r.cell 1; have r2 := sm.r.cell 2; have r3 := sm.r.cell 3; have r4 := sm.r.cell 4; have r5 := sm.r.cell 5
    have f0 := sm.r.frozen 0; have f1 := sm.r.frozen 1; have f2 := sm.r.frozen 2; have f3 := sm.r.frozen 3; have f4 := sm.r.frozen 4; have f5 := sm.r.frozen 5
    go_wp2_with fail
    try simp only [Exit.inBlock, Exit.then]
    refine read_rets sm _ _ _ _ _ _ rfl ?_
    refine readEnd_nil ?_ rfl (below_row sm.b _ (by omega) _ _ _ _ _ _)
    have h := HR.out
    rw [if_pos he2] at h
    exact Option.some.inj h
  have hz2 : e2 = 0 := he2
  subst hz2
  clear he2
  have ec := sm.e.cell 3; have ef := sm.e.frozen 3; have i1 := sm.l.lt; have i2 := sm.e.lt
  have st3 := sm.setE 3 (.int .i64 n2)
  go_wp2_with fail
  generalize hgw : World.setCell wm ⟨w.heap.size + 1 + 1, 3, none⟩ (.int .i64 n2) = w3 at st3 ⊢
  clear ec ef i1 i2 sm fc hgw
  try simp at st3
  have hR := HR.out
  rw [if_neg (fun h => h rfl)] at hR
  rw [if_neg (fun h => h rfl)] at hR
  rw [if_neg (fun h => h rfl)] at hR
  cases bp with
  | true =>
    rw [if_pos rfl] at hR
    have HR3 := Lib.hid hR; clear hR
    have s4 := st3.setE 4 (.string s2)
    simp at s4
    have h5 := st3.h.cell 5; have h6 := st3.h.cell 6; have c0 := st3.e.cell 0; have c1 := st3.e.cell 1; have c2 := st3.e.cell 2; have c3 := st3.e.cell 3; have c4 := st3.e.cell 4; have c5 := st3.e.cell 5; have g4 := st3.e.frozen 4; have g5 := st3.e.frozen 5; have r0 := st3.r.cell 0; have r1 := st3.r.cell 1; have r2 := st3.r.cell 2; have r3 := st3.r.cell 3; have r4 := st3.r.cell 4; have r5 := st3.r.cell 5; have f0 := st3.r.frozen 0; have f1 := st3.r.frozen 1; have f2 := st3.r.frozen 2; have f3 := st3.r.frozen 3; have f4 := st3.r.frozen 4; have f5 := st3.r.frozen 5
    rw [rounds_succ]
    go_wp2_with fail
    try simp only [Exit.inBlock, Exit.then]
    refine read_rets s4 _ _ _ _ _ _ rfl ?_
    exact readEnd_nil (Option.some.inj HR3.out) rfl (below_row s4.b _ (by omega) _ _ _ _ _ _)
  | false =>
    rw [if_neg (by decide)] at hR
    cases bd with
    | false =>
      rw [if_neg (by decide)] at hR
      by_cases hs3 : s2 = ⟨#[]⟩
      · rw [if_neg (fun h => h hs3)] at hR
        have HR3 := Lib.hid hR; clear hR
        subst hs3
        have h5 := st3.h.cell 5; have h6 := st3.h.cell 6; have c0 := st3.e.cell 0; have c1 := st3.e.cell 1; have c2 := st3.e.cell 2; have c3 := st3.e.cell 3; have c4 := st3.e.cell 4; have c5 := st3.e.cell 5; have g4 := st3.e.frozen 4; have g5 := st3.e.frozen 5; have r0 := st3.r.cell 0; have r1 := st3.r.cell 1; have r2 := st3.r.cell 2; have r3 := st3.r.cell 3; have r4 := st3.r.cell 4; have r5 := st3.r.cell 5; have f0 := st3.r.frozen 0; have f1 := st3.r.frozen 1; have f2 := st3.r.frozen 2; have f3 := st3.r.frozen 3; have f4 := st3.r.frozen 4; have f5 := st3.r.frozen 5
        rw [rounds_succ]
        go_wp2_with fail
        try simp only [Exit.inBlock, Exit.then]
        refine read_rets st3 _ _ _ _ _ _ rfl ?_
        exact readEnd_nil (Option.some.inj HR3.out) rfl (below_row st3.b _ (by omega) _ _ _ _ _ _)
      · rw [if_pos hs3] at hR
        have HR3 := Lib.hid hR; clear hR
        have hne := str_nonempty.2 hs3
        clear hs3
        have h5 := st3.h.cell 5; have h6 := st3.h.cell 6; have c0 := st3.e.cell 0; have c1 := st3.e.cell 1; have c2 := st3.e.cell 2; have c3 := st3.e.cell 3; have c4 := st3.e.cell 4; have c5 := st3.e.cell 5; have g4 := st3.e.frozen 4; have g5 := st3.e.frozen 5; have r0 := st3.r.cell 0; have r1 := st3.r.cell 1; have r2 := st3.r.cell 2; have r3 := st3.r.cell 3; have r4 := st3.r.cell 4; have r5 := st3.r.cell 5; have f0 := st3.r.frozen 0; have f1 := st3.r.frozen 1; have f2 := st3.r.frozen 2; have f3 := st3.r.frozen 3; have f4 := st3.r.frozen 4; have f5 := st3.r.frozen 5
        rw [rounds_succ]
        go_wp2_with fail
        try simp only [Exit.inBlock, Exit.then]
        refine read_rets st3 _ _ _ _ _ _ rfl ?_
        exact readEnd_nil (Option.some.inj HR3.out) rfl (below_row st3.b _ (by omega) _ _ _ _ _ _)
    | true =>
      rw [if_pos rfl] at hR
      obtain ⟨⟨bs, eb⟩, hd, hR⟩ := Option.bind_eq_some_iff.1 hR
      have HD := Lib.hid hd; clear hd
      have h5 := st3.h.cell 5; have h6 := st3.h.cell 6; have c0 := st3.e.cell 0; have c1 := st3.e.cell 1; have c2 := st3.e.cell 2; have c3 := st3.e.cell 3; have c4 := st3.e.cell 4; have c5 := st3.e.cell 5; have g4 := st3.e.frozen 4; have g5 := st3.e.frozen 5; have r0 := st3.r.cell 0; have r1 := st3.r.cell 1; have r2 := st3.r.cell 2; have r3 := st3.r.cell 3; have r4 := st3.r.cell 4; have r5 := st3.r.cell 5; have f0 := st3.r.frozen 0; have f1 := st3.r.frozen 1; have f2 := st3.r.frozen 2; have f3 := st3.r.frozen 3; have f4 := st3.r.frozen 4; have f5 := st3.r.frozen 5
      rw [rounds_succ]
      go_wp2_with fail
      clear h5 h6 c0 c1 c2 c3 c4 c5 g4 g5 r0 r1 r2 r3 r4 r5 f0 f1 f2 f3 f4 f5
      refine (PAskA.ask_data.calls 20000 s2 bs eb _ HD.out).mono ?_
      rintro e w4 ⟨v0, rfl, hv0, hb4⟩
      have s5 := st3.next hb4
      have hlt := st3.l.lt
      have HV0 := Lib.hid hv0
      have hvs := YtbkhhmgpfjemcaaDoorW.PrintWords.Kd.R_slice hv0
      obtain ⟨A0, c0', rfl⟩ := hvs
      clear hv0 hb4
      generalize w3.heap.size = B3 at HV0 hlt
      clear st3
      have h5 := s5.h.cell 5; have h6 := s5.h.cell 6; have c0 := s5.e.cell 0; have c1 := s5.e.cell 1; have c2 := s5.e.cell 2; have c3 := s5.e.cell 3; have c4 := s5.e.cell 4; have c5 := s5.e.cell 5; have g4 := s5.e.frozen 4; have g5 := s5.e.frozen 5; have r0 := s5.r.cell 0; have r1 := s5.r.cell 1; have r2 := s5.r.cell 2; have r3 := s5.r.cell 3; have r4 := s5.r.cell 4; have r5 := s5.r.cell 5; have f0 := s5.r.frozen 0; have f1 := s5.r.frozen 1; have f2 := s5.r.frozen 2; have f3 := s5.r.frozen 3; have f4 := s5.r.frozen 4; have f5 := s5.r.frozen 5
      by_cases heb : eb = 0
      rotate_left
      · have hq : (eb == 0) = false := by simpa using heb
        have hq2 : (eb != 0) = true := by simpa using heb
        try simp only at hR
        rw [if_pos heb] at hR
        have HR3 := Lib.hid hR; clear hR heb
        go_wp2_with fail
        try simp only [Exit.inBlock, Exit.then]
        refine read_rets s5 _ _ _ _ _ _ rfl ?_
        exact readEnd_nil (Option.some.inj HR3.out) rfl (below_row s5.b _ (by omega) _ _ _ _ _ _)
      · try simp only at hR
        rw [if_neg (fun h => h heb)] at hR
        subst heb
        have HR3 := Lib.hid hR; clear hR
        have s6 := s5.setE 5 (.slice A0 bs.length c0')
        simp at s6
        go_wp2_with fail
        try simp only [Exit.inBlock, Exit.then]
        refine read_rets s6 _ _ _ _ _ _ rfl ?_
        have h3 := Option.some.inj HR3.out
        subst h3
        exact ⟨_, rfl, row_kept (g := 0) HV0.out (by omega) trivial, below_row s6.b _ (by omega) _ _ _ _ _ _⟩
end Go.Proofs.YtbkhhmgpfjemcaaDoor

namespace Go.Proofs.YtbkhhmgpfjemcaaDoor
set_option linter.unusedVariables false
set_option linter.unusedSimpArgs false
open Go.RowKit Go.Sort

set_option maxRecDepth 100000 in
set_option maxHeartbeats 8000000 in
theorem read_TTT (word : ByteArray) (k : Int) (bd bp : Bool) (s : ByteArray) (hs : s.size ≤ 100000) (w : World) (he : EnvE w) (R : Int × Int × Int × Int × ByteArray × List Int × Int) (hR : readOf k true true true bd bp s = some R) :
    Calls Tryd.prog 16 #[.agg #[.string word, .int .i64 k, .bool true, .bool true, .bool true, .bool bd, .bool bp], .string s] w (ReadEnd R.1 R.2.1 R.2.2.1 R.2.2.2.1 R.2.2.2.2.1 R.2.2.2.2.2.1 R.2.2.2.2.2.2 w) := by
  have HS0 := Lib.hid (RSt.first w #[.string word, .int .i64 k, .bool true, .bool true, .bool true, .bool bd, .bool bp] #[.int .i64 k, .int .i64 0, .int .i64 0, .int .i64 0, .string ⟨#[]⟩, .slice none 0 0] #[.bool true, .pointer (some ⟨w.heap.size + 1 + 1, 1, none⟩), .bool true, .pointer (some ⟨w.heap.size + 1 + 1, 2, none⟩), .bool true, .pointer (some ⟨w.heap.size + 1 + 1, 3, none⟩)])
  have HE := Lib.hid he
  simp only [readOf, stepN, if_true, Bool.false_eq_true, if_false] at hR
  obtain ⟨u0, s0, hu0⟩ : ∃ u s', nextOf s = (u, s') := ⟨_, _, rfl⟩
  obtain ⟨n0, e0, hn0⟩ : ∃ n e, askNum u0 = (n, e) := ⟨_, _, rfl⟩
  have hle0 := next_le _ _ _ hu0
  simp only [hu0, hn0] at hR
  have HU0 := Lib.hid hu0; have HN0 := Lib.hid hn0; clear hu0 hn0
  obtain ⟨u1, s1, hu1⟩ : ∃ u s', nextOf s0 = (u, s') := ⟨_, _, rfl⟩
  obtain ⟨n1, e1, hn1⟩ : ∃ n e, askNum u1 = (n, e) := ⟨_, _, rfl⟩
  have hle1 := next_le _ _ _ hu1
  simp only [hu1, hn1] at hR
  have HU1 := Lib.hid hu1; have HN1 := Lib.hid hn1; clear hu1 hn1
  obtain ⟨u2, s2, hu2⟩ : ∃ u s', nextOf s1 = (u, s') := ⟨_, _, rfl⟩
  obtain ⟨n2, e2, hn2⟩ : ∃ n e, askNum u2 = (n, e) := ⟨_, _, rfl⟩
  have hle2 := next_le _ _ _ hu2
  simp only [hu2, hn2] at hR
  have HU2 := Lib.hid hu2; have HN2 := Lib.hid hn2; clear hu2 hn2
  have HR := Lib.hid hR
  clear he hR
  go_enter Tryd.func16, Tryd.ntmps16
  go_wp2_with fail
  have st0 := HS0.out
  generalize hgw : (((w.alloc (.cells #[.string word, .int .i64 k, .bool true, .bool true, .bool true, .bool bd, .bool bp] 47)).alloc (.cells #[.int .i64 0, .int .i64 0, .int .i64 0, .int .i64 0, .string ⟨#[]⟩, .slice none 0 0] 25)).alloc (.cells #[.int .i64 k, .int .i64 0, .int .i64 0, .int .i64 0, .string ⟨#[]⟩, .slice none 0 0] 25)).alloc (.cells #[.bool true, .pointer (some ⟨w.heap.size + 1 + 1, 1, none⟩), .bool true, .pointer (some ⟨w.heap.size + 1 + 1, 2, none⟩), .bool true, .pointer (some ⟨w.heap.size + 1 + 1, 3, none⟩)] 57) = wB at st0 ⊢
  clear hgw
  refine wp_loop_rounds 5 ?_
  have lc0 := st0.l.cell 0; have lc1 := st0.l.cell 1; have i0 := st0.l.lt
  have sc := st0.alloc (.cells #[.bool true, .pointer (some ⟨w.heap.size + 1 + 1, 1, none⟩)] 57)
  rw [rounds_succ]
  go_wp2_with fail
  have fb : Blk (wB.alloc (.cells #[.bool true, .pointer (some ⟨w.heap.size + 1 + 1, 1, none⟩)] 57)) wB.heap.size 57 #[.bool true, .pointer (some ⟨w.heap.size + 1 + 1, 1, none⟩)] := Blk.new _ _ _
  refine (next_any s (by omega) _ (HE.out.env.below sc.b) u0 s0 HU0.out).mono ?_
  rintro e wn ⟨rfl, hbn⟩
  have sn := sc.next hbn; have fn := fb.below hbn fb.lt
  clear fb sc hbn lc0 lc1 i0 st0
  generalize wB.heap.size = gb at fn ⊢
  go_wp2_with fail
  refine (askNumber_any u0 (by omega) _ (HE.out.below sn.b)).mono ?_
  rw [HN0.out]
  rintro e wm ⟨rfl, hbm⟩
  have sm := sn.next hbm; have fc := (fn.below hbm fn.lt).cell 1
  clear sn fn hbm
  by_cases he0 : e0 = 0
  rotate_left
  · have hq : (e0 == 0) = false := by simpa using he0
    have hq2 : (e0 != 0) = true := by simpa using he0
    have r0 := sm.r.cell 0; have r1 := sm.r.cell 1; have r2 := sm.r.cell 2; have r3 := sm.r.cell 3; have r4 := sm.r.cell 4; have r5 := sm.r.cell 5
    have f0 := sm.r.frozen 0; have f1 := sm.r.frozen 1; have f2 := sm.r.frozen 2; have f3 := sm.r.frozen 3; have f4 := sm.r.frozen 4; have f5 := sm.r.frozen 5
    go_wp2_with fail
    try simp only [Exit.inBlock, Exit.then]
    refine read_rets sm _ _ _ _ _ _ rfl ?_
    refine readEnd_nil ?_ rfl (below_row sm.b _ (by omega) _ _ _ _ _ _)
    have h := HR.out
    rw [if_pos he0] at h
    exact Option.some.inj h
  have hz0 : e0 = 0 := he0
  subst hz0
  clear he0
  have ec := sm.e.cell 1; have ef := sm.e.frozen 1; have i1 := sm.l.lt; have i2 := sm.e.lt
  have st1 := sm.setE 1 (.int .i64 n0)
  go_wp2_with fail
  generalize hgw : World.setCell wm ⟨w.heap.size + 1 + 1, 1, none⟩ (.int .i64 n0) = w1 at st1 ⊢
  clear ec ef i1 i2 sm fc hgw
  try simp at st1
  have lc0 := st1.l.cell 2; have lc1 := st1.l.cell 3; have i0 := st1.l.lt
  have sc := st1.alloc (.cells #[.bool true, .pointer (some ⟨w.heap.size + 1 + 1, 2, none⟩)] 57)
  rw [rounds_succ]
  go_wp2_with fail
  have fb : Blk (w1.alloc (.cells #[.bool true, .pointer (some ⟨w.heap.size + 1 + 1, 2, none⟩)] 57)) w1.heap.size 57 #[.bool true, .pointer (some ⟨w.heap.size + 1 + 1, 2, none⟩)] := Blk.new _ _ _
  refine (next_any s0 (by omega) _ (HE.out.env.below sc.b) u1 s1 HU1.out).mono ?_
  rintro e wn ⟨rfl, hbn⟩
  have sn := sc.next hbn; have fn := fb.below hbn fb.lt
  clear fb sc hbn lc0 lc1 i0 st1
  generalize w1.heap.size = gb at fn ⊢
  go_wp2_with fail
  refine (askNumber_any u1 (by omega) _ (HE.out.below sn.b)).mono ?_
  rw [HN1.out]
  rintro e wm ⟨rfl, hbm⟩
  have sm := sn.next hbm; have fc := (fn.below hbm fn.lt).cell 1
  clear sn fn hbm
  by_cases he1 : e1 = 0
  rotate_left
  · have hq : (e1 == 0) = false := by simpa using he1
    have hq2 : (e1 != 0) = true := by simpa using he1
    have r0 := sm.r.cell 0; have r1 := sm.r.cell 1; have r2 := sm.r.cell 2; have r3 := sm.r.cell 3; have r4 := sm.r.cell 4; have r5 := sm.r.cell 5
    have f0 := sm.r.frozen 0; have f1 := sm.r.frozen 1; have f2 := sm.r.frozen 2; have f3 := sm.r.frozen 3; have f4 := sm.r.frozen 4; have f5 := sm.r.frozen 5
    go_wp2_with fail
    try simp only [Exit.inBlock, Exit.then]
    refine read_rets sm _ _ _ _ _ _ rfl ?_
    refine readEnd_nil ?_ rfl (below_row sm.b _ (by omega) _ _ _ _ _ _)
    have h := HR.out
    rw [if_neg (fun h => h rfl)] at h
    rw [if_pos he1] at h
    exact Option.some.inj h
  have hz1 : e1 = 0 := he1
  subst hz1
  clear he1
  have ec := sm.e.cell 2; have ef := sm.e.frozen 2; have i1 := sm.l.lt; have i2 := sm.e.lt
  have st2 := sm.setE 2 (.int .i64 n1)
  go_wp2_with fail
  generalize hgw : World.setCell wm ⟨w.heap.size + 1 + 1, 2, none⟩ (.int .i64 n1) = w2 at st2 ⊢
  clear ec ef i1 i2 sm fc hgw
  try simp at st2
  have lc0 := st2.l.cell 4; have lc1 := st2.l.cell 5; have i0 := st2.l.lt
  have sc := st2.alloc (.cells #[.bool true, .pointer (some ⟨w.heap.size + 1 + 1, 3, none⟩)] 57)
  rw [rounds_succ]
  go_wp2_with fail
  have fb : Blk (w2.alloc (.cells #[.bool true, .pointer (some ⟨w.heap.size + 1 + 1, 3, none⟩)] 57)) w2.heap.size 57 #[.bool true, .pointer (some ⟨w.heap.size + 1 + 1, 3, none⟩)] := Blk.new _ _ _
  refine (next_any s1 (by omega) _ (HE.out.env.below sc.b) u2 s2 HU2.out).mono ?_
  rintro e wn ⟨rfl, hbn⟩
  have sn := sc.next hbn; have fn := fb.below hbn fb.lt
  clear fb sc hbn lc0 lc1 i0 st2
  generalize w2.heap.size = gb at fn ⊢
  go_wp2_with fail
  refine (askNumber_any u2 (by omega) _ (HE.out.below sn.b)).mono ?_
  rw [HN2.out]
  rintro e wm ⟨rfl, hbm⟩
  have sm := sn.next hbm; have fc := (fn.below hbm fn.lt).cell 1
  clear sn fn hbm
  by_cases he2 : e2 = 0
  rotate_left
  · have hq : (e2 == 0) = false := by simpa using he2
    have hq2 : (e2 != 0) = true := by simpa using he2
    have r0 := sm.r.cell 0; have r1 := sm.r.cell 1; have r2 := sm.r.cell 2; have r3 := sm.r.cell 3; have r4 := sm.r.cell 4; have r5 := sm.r.cell 5
    have f0 := sm.r.frozen 0; have f1 := sm.r.frozen 1; have f2 := sm.r.frozen 2; have f3 := sm.r.frozen 3; have f4 := sm.r.frozen 4; have f5 := sm.r.frozen 5
    go_wp2_with fail
    try simp only [Exit.inBlock, Exit.then]
    refine read_rets sm _ _ _ _ _ _ rfl ?_
    refine readEnd_nil ?_ rfl (below_row sm.b _ (by omega) _ _ _ _ _ _)
    have h := HR.out
    rw [if_neg (fun h => h rfl)] at h
    rw [if_neg (fun h => h rfl)] at h
    rw [if_pos he2] at h
    exact Option.some.inj h
  have hz2 : e2 = 0 := he2
  subst hz2
  clear he2
  have ec := sm.e.cell 3; have ef := sm.e.frozen 3; have i1 := sm.l.lt; have i2 := sm.e.lt
  have st3 := sm.setE 3 (.int .i64 n2)
  go_wp2_with fail
  generalize hgw : World.setCell wm ⟨w.heap.size + 1 + 1, 3, none⟩ (.int .i64 n2) = w3 at st3 ⊢
  clear ec ef i1 i2 sm fc hgw
  try simp at st3
  have hR := HR.out
  rw [if_neg (fun h => h rfl)] at hR
  rw [if_neg (fun h => h rfl)] at hR
  rw [if_neg (fun h => h rfl)] at hR
  cases bp with
  | true =>
    rw [if_pos rfl] at hR
    have HR3 := Lib.hid hR; clear hR
    have s4 := st3.setE 4 (.string s2)
    simp at s4
    have h5 := st3.h.cell 5; have h6 := st3.h.cell 6; have c0 := st3.e.cell 0; have c1 := st3.e.cell 1; have c2 := st3.e.cell 2; have c3 := st3.e.cell 3; have c4 := st3.e.cell 4; have c5 := st3.e.cell 5; have g4 := st3.e.frozen 4; have g5 := st3.e.frozen 5; have r0 := st3.r.cell 0; have r1 := st3.r.cell 1; have r2 := st3.r.cell 2; have r3 := st3.r.cell 3; have r4 := st3.r.cell 4; have r5 := st3.r.cell 5; have f0 := st3.r.frozen 0; have f1 := st3.r.frozen 1; have f2 := st3.r.frozen 2; have f3 := st3.r.frozen 3; have f4 := st3.r.frozen 4; have f5 := st3.r.frozen 5
    rw [rounds_succ]
    go_wp2_with fail
    try simp only [Exit.inBlock, Exit.then]
    refine read_rets s4 _ _ _ _ _ _ rfl ?_
    exact readEnd_nil (Option.some.inj HR3.out) rfl (below_row s4.b _ (by omega) _ _ _ _ _ _)
  | false =>
    rw [if_neg (by decide)] at hR
    cases bd with
    | false =>
      rw [if_neg (by decide)] at hR
      by_cases hs3 : s2 = ⟨#[]⟩
      · rw [if_neg (fun h => h hs3)] at hR
        have HR3 := Lib.hid hR; clear hR
        subst hs3
        have h5 := st3.h.cell 5; have h6 := st3.h.cell 6; have c0 := st3.e.cell 0; have c1 := st3.e.cell 1; have c2 := st3.e.cell 2; have c3 := st3.e.cell 3; have c4 := st3.e.cell 4; have c5 := st3.e.cell 5; have g4 := st3.e.frozen 4; have g5 := st3.e.frozen 5; have r0 := st3.r.cell 0; have r1 := st3.r.cell 1; have r2 := st3.r.cell 2; have r3 := st3.r.cell 3; have r4 := st3.r.cell 4; have r5 := st3.r.cell 5; have f0 := st3.r.frozen 0; have f1 := st3.r.frozen 1; have f2 := st3.r.frozen 2; have f3 := st3.r.frozen 3; have f4 := st3.r.frozen 4; have f5 := st3.r.frozen 5
        rw [rounds_succ]
        go_wp2_with fail
        try simp only [Exit.inBlock, Exit.then]
        refine read_rets st3 _ _ _ _ _ _ rfl ?_
        exact readEnd_nil (Option.some.inj HR3.out) rfl (below_row st3.b _ (by omega) _ _ _ _ _ _)
      · rw [if_pos hs3] at hR
        have HR3 := Lib.hid hR; clear hR
        have hne := str_nonempty.2 hs3
        clear hs3
        have h5 := st3.h.cell 5; have h6 := st3.h.cell 6; have c0 := st3.e.cell 0; have c1 := st3.e.cell 1; have c2 := st3.e.cell 2; have c3 := st3.e.cell 3; have c4 := st3.e.cell 4; have c5 := st3.e.cell 5; have g4 := st3.e.frozen 4; have g5 := st3.e.frozen 5; have r0 := st3.r.cell 0; have r1 := st3.r.cell 1; have r2 := st3.r.cell 2; have r3 := st3.r.cell 3; have r4 := st3.r.cell 4; have r5 := st3.r.cell 5; have f0 := st3.r.frozen 0; have f1 := st3.r.frozen 1; have f2 := st3.r.frozen 2; have f3 := st3.r.frozen 3; have f4 := st3.r.frozen 4; have f5 := st3.r.frozen 5
        rw [rounds_succ]
        go_wp2_with fail
        try simp only [Exit.inBlock, Exit.then]
        refine read_rets st3 _ _ _ _ _ _ rfl ?_
        exact readEnd_nil (Option.some.inj HR3.out) rfl (below_row st3.b _ (by omega) _ _ _ _ _ _)
    | true =>
      rw [if_pos rfl] at hR
      obtain ⟨⟨bs, eb⟩, hd, hR⟩ := Option.bind_eq_some_iff.1 hR
      have HD := Lib.hid hd; clear hd
      have h5 := st3.h.cell 5; have h6 := st3.h.cell 6; have c0 := st3.e.cell 0; have c1 := st3.e.cell 1; have c2 := st3.e.cell 2; have c3 := st3.e.cell 3; have c4 := st3.e.cell 4; have c5 := st3.e.cell 5; have g4 := st3.e.frozen 4; have g5 := st3.e.frozen 5; have r0 := st3.r.cell 0; have r1 := st3.r.cell 1; have r2 := st3.r.cell 2; have r3 := st3.r.cell 3; have r4 := st3.r.cell 4; have r5 := st3.r.cell 5; have f0 := st3.r.frozen 0; have f1 := st3.r.frozen 1; have f2 := st3.r.frozen 2; have f3 := st3.r.frozen 3; have f4 := st3.r.frozen 4; have f5 := st3.r.frozen 5
      rw [rounds_succ]
      go_wp2_with fail
      clear h5 h6 c0 c1 c2 c3 c4 c5 g4 g5 r0 r1 r2 r3 r4 r5 f0 f1 f2 f3 f4 f5
      refine (PAskA.ask_data.calls 20000 s2 bs eb _ HD.out).mono ?_
      rintro e w4 ⟨v0, rfl, hv0, hb4⟩
      have s5 := st3.next hb4
      have hlt := st3.l.lt
      have HV0 := Lib.hid hv0
      have hvs := YtbkhhmgpfjemcaaDoorW.PrintWords.Kd.R_slice hv0
      obtain ⟨A0, c0', rfl⟩ := hvs
      clear hv0 hb4
      generalize w3.heap.size = B3 at HV0 hlt
      clear st3
      have h5 := s5.h.cell 5; have h6 := s5.h.cell 6; have c0 := s5.e.cell 0; have c1 := s5.e.cell 1; have c2 := s5.e.cell 2; have c3 := s5.e.cell 3; have c4 := s5.e.cell 4; have c5 := s5.e.cell 5; have g4 := s5.e.frozen 4; have g5 := s5.e.frozen 5; have r0 := s5.r.cell 0; have r1 := s5.r.cell 1; have r2 := s5.r.cell 2; have r3 := s5.r.cell 3; have r4 := s5.r.cell 4; have r5 := s5.r.cell 5; have f0 := s5.r.frozen 0; have f1 := s5.r.frozen 1; have f2 := s5.r.frozen 2; have f3 := s5.r.frozen 3; have f4 := s5.r.frozen 4; have f5 := s5.r.frozen 5
      by_cases heb : eb = 0
      rotate_left
      · have hq : (eb == 0) = false := by simpa using heb
        have hq2 : (eb != 0) = true := by simpa using heb
        try simp only at hR
        rw [if_pos heb] at hR
        have HR3 := Lib.hid hR; clear hR heb
        go_wp2_with fail
        try simp only [Exit.inBlock, Exit.then]
        refine read_rets s5 _ _ _ _ _ _ rfl ?_
        exact readEnd_nil (Option.some.inj HR3.out) rfl (below_row s5.b _ (by omega) _ _ _ _ _ _)
      · try simp only at hR
        rw [if_neg (fun h => h heb)] at hR
        subst heb
        have HR3 := Lib.hid hR; clear hR
        have s6 := s5.setE 5 (.slice A0 bs.length c0')
        simp at s6
        go_wp2_with fail
        try simp only [Exit.inBlock, Exit.then]
        refine read_rets s6 _ _ _ _ _ _ rfl ?_
        have h3 := Option.some.inj HR3.out
        subst h3
        exact ⟨_, rfl, row_kept (g := 0) HV0.out (by omega) trivial, below_row s6.b _ (by omega) _ _ _ _ _ _⟩
end Go.Proofs.YtbkhhmgpfjemcaaDoor
