/-
  pannierref09.Make, walked.
-/
import Derived.Test.YthmleoceakonjaaDoorEntR3
namespace Go.Proofs.YthmleoceakonjaaDoor
set_option linter.unusedVariables false
set_option linter.unusedSimpArgs false
open Go.RowKit Go.Proofs.YthmleoceakonjaaDoorW.PrintWords Go.Proofs.YthmleoceakonjaaDoorW.PrintLast Go.Proofs.YthmleoceakonjaaDoorW.PrintMore

theorem RM.s5 {W wc : World} {bx br be : Nat} {form typ : Int} {t0 t1 t2 t3 t4 : ByteArray} {n0 n1 n2 n3 n4 : Int} {e : Array Value} (s : RM W bx br be (xCells form typ t0 t1 t2 t3 t4 n0 n1 n2 n3 n4) e wc) :
    Below W.heap.size W wc ∧ wc.cell? ⟨bx, 5, none⟩ = some (.string t3) := ⟨s.b, by have := s.x.cell 5; simpa using this⟩
theorem RM.s6 {W wc : World} {bx br be : Nat} {form typ : Int} {t0 t1 t2 t3 t4 : ByteArray} {n0 n1 n2 n3 n4 : Int} {e : Array Value} (s : RM W bx br be (xCells form typ t0 t1 t2 t3 t4 n0 n1 n2 n3 n4) e wc) :
    Below W.heap.size W wc ∧ wc.cell? ⟨bx, 6, none⟩ = some (.string t4) := ⟨s.b, by have := s.x.cell 6; simpa using this⟩
theorem RM.s10 {W wc : World} {bx br be : Nat} {form typ : Int} {t0 t1 t2 t3 t4 : ByteArray} {n0 n1 n2 n3 n4 : Int} {e : Array Value} (s : RM W bx br be (xCells form typ t0 t1 t2 t3 t4 n0 n1 n2 n3 n4) e wc) :
    Below W.heap.size W wc ∧ wc.cell? ⟨bx, 10, none⟩ = some (.int .i64 n3) := ⟨s.b, by have := s.x.cell 10; simpa using this⟩
theorem RM.s8 {W wc : World} {bx br be : Nat} {form typ : Int} {t0 t1 t2 t3 t4 : ByteArray} {n0 n1 n2 n3 n4 : Int} {e : Array Value} (s : RM W bx br be (xCells form typ t0 t1 t2 t3 t4 n0 n1 n2 n3 n4) e wc) :
    Below W.heap.size W wc ∧ wc.cell? ⟨bx, 8, none⟩ = some (.int .i64 n1) := ⟨s.b, by have := s.x.cell 8; simpa using this⟩
theorem RM.s9 {W wc : World} {bx br be : Nat} {form typ : Int} {t0 t1 t2 t3 t4 : ByteArray} {n0 n1 n2 n3 n4 : Int} {e : Array Value} (s : RM W bx br be (xCells form typ t0 t1 t2 t3 t4 n0 n1 n2 n3 n4) e wc) :
    Below W.heap.size W wc ∧ wc.cell? ⟨bx, 9, none⟩ = some (.int .i64 n2) := ⟨s.b, by have := s.x.cell 9; simpa using this⟩
theorem RM.s11 {W wc : World} {bx br be : Nat} {form typ : Int} {t0 t1 t2 t3 t4 : ByteArray} {n0 n1 n2 n3 n4 : Int} {e : Array Value} (s : RM W bx br be (xCells form typ t0 t1 t2 t3 t4 n0 n1 n2 n3 n4) e wc) :
    Below W.heap.size W wc ∧ wc.cell? ⟨bx, 11, none⟩ = some (.int .i64 n4) := ⟨s.b, by have := s.x.cell 11; simpa using this⟩
set_option maxHeartbeats 8000000 in
set_option maxRecDepth 100000 in
theorem ref_s13 (w wc : World) (form typ : Int) (t0 t1 t2 t3 t4 : ByteArray) (n0 n1 n2 n3 n4 : Int) (Al Ag : Option Addr) (cl cg : Nat) (l g : List PEntM.S62) (nm lk : ByteArray) (k : Int) (R : Value) (K : Nat) (path : ByteArray) (link : ByteArray) (user : ByteArray) (group : ByteArray) (m0 : Int) (b0 : Bool) (m1 : Int) (b1 : Bool) (m2 : Int) (b2 : Bool) (m3 : Int) (b3 : Bool) (u0 u6 u7 u8 u9 u11 u13 u22 u23 u24 u25 u26 u27 u28 u29 u30 u31 u32 u33 u34 u35 u36 u37 u38 u39 u40 u41 u42 u43 u44 u45 u46 u47 u48 u49 u50 u51 u52 u53 u54 u55 u56 u57 u58 u59 u60 u61 u62 u63 u64 u65 u66 u67 u68 u69 u70 u71 u72 u73 u74 u75 u76 u77 u78 u79 u80 u81 u82 u83 u84 u85 u86 u87 u88 u89 u90 u91 u92 u93 u94 u95 u96 u97 u98 u99 u100 u101 u102 u103 u104 u105 u106 u107 u108 u109 u110 u111 u112 u113 u114 u115 u116 u117 u118 u119 u120 u121 u122 u123 u124 u125 u126 u127 u128 u129 u130 u131 u132 u133 u134 u135 u136 u137 u138 u139 u140 u141 u142 u143 u144 u145 u146 u147 u148 u149 u150 u151 u152 u153 u154 u155 u156 u157 u158 u159 u160 u161 u162 u163 u164 u165 u166 u167 u168 u169 u170 u171 u172 u173 u174 u175 u176 u177 u178 u179 u180 u181 u182 u183 u184 u185 u186 u187 u188 u189 u190 u191 u192 u193 u194 u195 u196 u197 u198 u199 u200 u201 u202 u203 u204 u205 u206 u207 u208 : Value)
    (hl : Kd.C PEntM.k62 w Al l.length l) (hcl : l.length ≤ cl) (hg : Kd.C PEntM.k62 w Ag g.length g) (hcg : g.length ≤ cg) (hpz : path.size ≤ 9223372036854775807) (hR : R = if (b0 && b1 && b2 && b3) = true then madeV k form (n0 % 4096) path link user group (some m0) (some m1) (some m2) (some m3) else .tuple #[.agg (eCells ⟨#[]⟩ ⟨#[]⟩ 0 0 0 0 0 0 ⟨#[]⟩ ⟨#[]⟩), .int .i64 70])
    (S : Aside0 (RM w w.heap.size (w.heap.size + 1) (w.heap.size + 1 + 1) (xCells form typ t0 t1 t2 t3 t4 n0 n1 n2 n3 n4) (eCells path link k 0 0 0 0 0 user group) wc)) :
    Code.wp Tryd.prog (refRest 13) (bodyPost Tryd.prog Tryd.f7 (Gives R w)) ⟨(u0 :: (.slice Al l.length cl) :: (.slice Ag g.length cg) :: (.string nm) :: (.string lk) :: (.pointer (some ⟨w.heap.size, 0, none⟩)) :: u6 :: u7 :: u8 :: u9 :: (.pointer (some ⟨w.heap.size + 1, 0, none⟩)) :: u11 :: (.pointer (some ⟨w.heap.size + 1 + 1, 0, none⟩)) :: u13 :: (.int .i64 m0) :: (.bool b0) :: (.int .i64 m1) :: (.bool b1) :: (.int .i64 m2) :: (.bool b2) :: (.int .i64 m3) :: (.bool b3) :: u22 :: u23 :: u24 :: u25 :: u26 :: u27 :: u28 :: u29 :: u30 :: u31 :: u32 :: u33 :: u34 :: u35 :: u36 :: u37 :: u38 :: u39 :: u40 :: u41 :: u42 :: u43 :: u44 :: u45 :: u46 :: u47 :: u48 :: u49 :: u50 :: u51 :: u52 :: u53 :: u54 :: u55 :: u56 :: u57 :: u58 :: u59 :: u60 :: u61 :: u62 :: u63 :: u64 :: u65 :: u66 :: u67 :: u68 :: u69 :: u70 :: u71 :: u72 :: u73 :: u74 :: u75 :: u76 :: u77 :: u78 :: u79 :: u80 :: u81 :: u82 :: u83 :: u84 :: u85 :: u86 :: u87 :: u88 :: u89 :: u90 :: u91 :: u92 :: u93 :: u94 :: u95 :: u96 :: u97 :: u98 :: u99 :: u100 :: u101 :: u102 :: u103 :: u104 :: u105 :: u106 :: u107 :: u108 :: u109 :: u110 :: u111 :: u112 :: u113 :: u114 :: u115 :: u116 :: u117 :: u118 :: u119 :: u120 :: u121 :: u122 :: u123 :: u124 :: u125 :: u126 :: u127 :: u128 :: u129 :: u130 :: u131 :: u132 :: u133 :: u134 :: u135 :: u136 :: u137 :: u138 :: u139 :: u140 :: u141 :: u142 :: u143 :: u144 :: u145 :: u146 :: u147 :: u148 :: u149 :: u150 :: u151 :: u152 :: u153 :: u154 :: u155 :: u156 :: u157 :: u158 :: u159 :: u160 :: u161 :: u162 :: u163 :: u164 :: u165 :: u166 :: u167 :: u168 :: u169 :: u170 :: u171 :: u172 :: u173 :: u174 :: u175 :: u176 :: u177 :: u178 :: u179 :: u180 :: u181 :: u182 :: u183 :: u184 :: u185 :: u186 :: u187 :: u188 :: u189 :: u190 :: u191 :: u192 :: u193 :: u194 :: u195 :: u196 :: u197 :: u198 :: u199 :: u200 :: u201 :: u202 :: u203 :: u204 :: u205 :: u206 :: u207 :: u208 :: []).toArray, []⟩ wc := by
  conv => arg 2; whnf
  have HL := Lib.hid hl
  have HG := Lib.hid hg
  have HR := Lib.hid hR
  clear hl hg hR
  cases b0 with
  | false =>
    have S' := S.out
    have hV2 := HR.out
    simp only [Bool.false_and, Bool.and_false, Bool.true_and, Bool.false_eq_true, if_false] at hV2
    have HV2 := Lib.hid hV2
    obtain ⟨r0, r1, r2, r3, r4, r5, r6, r7, r8, r9⟩ := S'.ress
    obtain ⟨f0, f1, f2, f3, f4, f5, f6, f7, f8, f9⟩ := S'.ressf
    have HS := Lib.hid S'
    clear hV2 HR S' S HL HG
    go_wp2
    exact ref_rets HS.out _ _ _ _ _ _ _ _ _ _ _ rfl rfl HV2.out
  | true =>
   cases b1 with
   | false =>
    have S' := S.out
    have hV2 := HR.out
    simp only [Bool.false_and, Bool.and_false, Bool.true_and, Bool.false_eq_true, if_false] at hV2
    have HV2 := Lib.hid hV2
    obtain ⟨r0, r1, r2, r3, r4, r5, r6, r7, r8, r9⟩ := S'.ress
    obtain ⟨f0, f1, f2, f3, f4, f5, f6, f7, f8, f9⟩ := S'.ressf
    have HS := Lib.hid S'
    clear hV2 HR S' S HL HG
    go_wp2
    exact ref_rets HS.out _ _ _ _ _ _ _ _ _ _ _ rfl rfl HV2.out
   | true =>
    cases b2 with
    | false =>
     have S' := S.out
     have hV2 := HR.out
     simp only [Bool.false_and, Bool.and_false, Bool.true_and, Bool.false_eq_true, if_false] at hV2
     have HV2 := Lib.hid hV2
     obtain ⟨r0, r1, r2, r3, r4, r5, r6, r7, r8, r9⟩ := S'.ress
     obtain ⟨f0, f1, f2, f3, f4, f5, f6, f7, f8, f9⟩ := S'.ressf
     have HS := Lib.hid S'
     clear hV2 HR S' S HL HG
     go_wp2
     exact ref_rets HS.out _ _ _ _ _ _ _ _ _ _ _ rfl rfl HV2.out
    | true =>
     cases b3 with
     | false =>
      have S' := S.out
      have hV2 := HR.out
      simp only [Bool.false_and, Bool.and_false, Bool.true_and, Bool.false_eq_true, if_false] at hV2
      have HV2 := Lib.hid hV2
      obtain ⟨r0, r1, r2, r3, r4, r5, r6, r7, r8, r9⟩ := S'.ress
      obtain ⟨f0, f1, f2, f3, f4, f5, f6, f7, f8, f9⟩ := S'.ressf
      have HS := Lib.hid S'
      clear hV2 HR S' S HL HG
      go_wp2
      exact ref_rets HS.out _ _ _ _ _ _ _ _ _ _ _ rfl rfl HV2.out
     | true =>
      have hV2 := HR.out
      simp only [Bool.and_self, if_true] at hV2
      have HV2 := Lib.hid hV2
      clear hV2 HR HL HG
      go_upto_if 139 with (fail)
      go_cut [] (fun wc => Aside0 (RM w w.heap.size (w.heap.size + 1) (w.heap.size + 1 + 1) (xCells form typ t0 t1 t2 t3 t4 n0 n1 n2 n3 n4) (eCells path link k 0 0 0 0 0 user group) wc))
      case first => (go_wp2; go_meet; (case rel => exact S))
      case rest =>
        clear S
        go_step
        exact ref_t14 w _ form typ t0 t1 t2 t3 t4 n0 n1 n2 n3 n4 path link user group m0 m1 m2 m3 k 0 0 ⟨#[]⟩ _ _ _ _ _ _ _ _ _ _ _ _ _ _ _ _ _ _ _ _ _ _ _ _ _ _ _ _ _ _ _ _ _ _ _ _ _ _ _ _ _ _ _ _ _ _ _ _ _ _ _ _ _ _ _ _ _ _ _ _ _ _ _ _ _ _ _ _ _ _ _ _ _ _ _ _ _ _ _ _ _ _ _ _ _ _ _ _ _ _ _ _ _ _ _ _ _ _ _ _ _ _ _ _ _ _ _ _ _ _ _ _ _ _ _ _ _ _ _ _ _ _ _ _ _ _ _ _ _ _ _ _ _ _ _ _ _ _ _ _ _ _ _ _ _ _ _ _ _ _ _ _ _ _ _ _ _ _ _ _ _ _ _ _ _ _ _ _ _ _ _ _ _ _ _ _ _ _ _ _ _ _ _ _ _ _ _ _ _ _ _ _ _ _ _ _ _ _ _ _ _ _ R hcut hpz HV2.out

set_option maxHeartbeats 8000000 in
set_option maxRecDepth 100000 in
theorem ref_s12 (w wc : World) (form typ : Int) (t0 t1 t2 t3 t4 : ByteArray) (n0 n1 n2 n3 n4 : Int) (Al Ag : Option Addr) (cl cg : Nat) (l g : List PEntM.S62) (nm lk : ByteArray) (k : Int) (R : Value) (K : Nat) (path : ByteArray) (link : ByteArray) (user : ByteArray) (group : ByteArray) (m0 : Int) (b0 : Bool) (m1 : Int) (b1 : Bool) (m2 : Int) (b2 : Bool) (u0 u6 u7 u8 u9 u11 u13 u20 u21 u22 u23 u24 u25 u26 u27 u28 u29 u30 u31 u32 u33 u34 u35 u36 u37 u38 u39 u40 u41 u42 u43 u44 u45 u46 u47 u48 u49 u50 u51 u52 u53 u54 u55 u56 u57 u58 u59 u60 u61 u62 u63 u64 u65 u66 u67 u68 u69 u70 u71 u72 u73 u74 u75 u76 u77 u78 u79 u80 u81 u82 u83 u84 u85 u86 u87 u88 u89 u90 u91 u92 u93 u94 u95 u96 u97 u98 u99 u100 u101 u102 u103 u104 u105 u106 u107 u108 u109 u110 u111 u112 u113 u114 u115 u116 u117 u118 u119 u120 u121 u122 u123 u124 u125 u126 u127 u128 u129 u130 u131 u132 u133 u134 u135 u136 u137 u138 u139 u140 u141 u142 u143 u144 u145 u146 u147 u148 u149 u150 u151 u152 u153 u154 u155 u156 u157 u158 u159 u160 u161 u162 u163 u164 u165 u166 u167 u168 u169 u170 u171 u172 u173 u174 u175 u176 u177 u178 u179 u180 u181 u182 u183 u184 u185 u186 u187 u188 u189 u190 u191 u192 u193 u194 u195 u196 u197 u198 u199 u200 u201 u202 u203 u204 u205 u206 u207 u208 : Value)
    (v7 : ByteArray) (m3 : Int) (b3 : Bool) (hv7 : PEntM.pannierref09_value.f K l g ⟨#[109, 116, 105, 109, 101]⟩ = some v7) (hn7 : PEntM.pannierref09_number.f v7 n4 = some (m3, b3))
    (hl : Kd.C PEntM.k62 w Al l.length l) (hcl : l.length ≤ cl) (hg : Kd.C PEntM.k62 w Ag g.length g) (hcg : g.length ≤ cg) (hpz : path.size ≤ 9223372036854775807) (hR : R = if (b0 && b1 && b2 && b3) = true then madeV k form (n0 % 4096) path link user group (some m0) (some m1) (some m2) (some m3) else .tuple #[.agg (eCells ⟨#[]⟩ ⟨#[]⟩ 0 0 0 0 0 0 ⟨#[]⟩ ⟨#[]⟩), .int .i64 70])
    (S : Aside0 (RM w w.heap.size (w.heap.size + 1) (w.heap.size + 1 + 1) (xCells form typ t0 t1 t2 t3 t4 n0 n1 n2 n3 n4) (eCells path link k 0 0 0 0 0 user group) wc)) :
    Code.wp Tryd.prog (refRest 12) (bodyPost Tryd.prog Tryd.f7 (Gives R w)) ⟨(u0 :: (.slice Al l.length cl) :: (.slice Ag g.length cg) :: (.string nm) :: (.string lk) :: (.pointer (some ⟨w.heap.size, 0, none⟩)) :: u6 :: u7 :: u8 :: u9 :: (.pointer (some ⟨w.heap.size + 1, 0, none⟩)) :: u11 :: (.pointer (some ⟨w.heap.size + 1 + 1, 0, none⟩)) :: u13 :: (.int .i64 m0) :: (.bool b0) :: (.int .i64 m1) :: (.bool b1) :: (.int .i64 m2) :: (.bool b2) :: u20 :: u21 :: u22 :: u23 :: u24 :: u25 :: u26 :: u27 :: u28 :: u29 :: u30 :: u31 :: u32 :: u33 :: u34 :: u35 :: u36 :: u37 :: u38 :: u39 :: u40 :: u41 :: u42 :: u43 :: u44 :: u45 :: u46 :: u47 :: u48 :: u49 :: u50 :: u51 :: u52 :: u53 :: u54 :: u55 :: u56 :: u57 :: u58 :: u59 :: u60 :: u61 :: u62 :: u63 :: u64 :: u65 :: u66 :: u67 :: u68 :: u69 :: u70 :: u71 :: u72 :: u73 :: u74 :: u75 :: u76 :: u77 :: u78 :: u79 :: u80 :: u81 :: u82 :: u83 :: u84 :: u85 :: u86 :: u87 :: u88 :: u89 :: u90 :: u91 :: u92 :: u93 :: u94 :: u95 :: u96 :: u97 :: u98 :: u99 :: u100 :: u101 :: u102 :: u103 :: u104 :: u105 :: u106 :: u107 :: u108 :: u109 :: u110 :: u111 :: u112 :: u113 :: u114 :: u115 :: u116 :: u117 :: u118 :: u119 :: u120 :: u121 :: u122 :: u123 :: u124 :: u125 :: u126 :: u127 :: u128 :: u129 :: u130 :: u131 :: u132 :: u133 :: u134 :: u135 :: u136 :: u137 :: u138 :: u139 :: u140 :: u141 :: u142 :: u143 :: u144 :: u145 :: u146 :: u147 :: u148 :: u149 :: u150 :: u151 :: u152 :: u153 :: u154 :: u155 :: u156 :: u157 :: u158 :: u159 :: u160 :: u161 :: u162 :: u163 :: u164 :: u165 :: u166 :: u167 :: u168 :: u169 :: u170 :: u171 :: u172 :: u173 :: u174 :: u175 :: u176 :: u177 :: u178 :: u179 :: u180 :: u181 :: u182 :: u183 :: u184 :: u185 :: u186 :: u187 :: u188 :: u189 :: u190 :: u191 :: u192 :: u193 :: u194 :: u195 :: u196 :: u197 :: u198 :: u199 :: u200 :: u201 :: u202 :: u203 :: u204 :: u205 :: u206 :: u207 :: u208 :: []).toArray, []⟩ wc := by
  conv => arg 2; whnf
  have HL := Lib.hid hl
  have HG := Lib.hid hg
  have HR := Lib.hid hR
  clear hl hg hR
  have HV := Aside0.mk hv7
  have HN := Aside0.mk hn7
  have SP := S.out
  clear hv7 hn7 S
  go_step
  go_cut [20, 21] (fun p q wc => p = .int .i64 m3 ∧ q = .bool b3 ∧ Aside0 (RM w w.heap.size (w.heap.size + 1) (w.heap.size + 1 + 1) (xCells form typ t0 t1 t2 t3 t4 n0 n1 n2 n3 n4) (eCells path link k 0 0 0 0 0 user group) wc))
  case first =>
    go_region_held3 (fun w' => Below w.heap.size w w' ∧ w'.cell? ⟨w.heap.size, 11, none⟩ = some (.int .i64 n4)) (first | exact RM.s11 (SP.drewN _) | exact RM.s11 SP.drew | exact RM.s11 hrn) (first | (go_at_call 18; (with_reducible refine (PEntM.pannierref09_value.calls K Al cl l Ag cg g ⟨#[109, 116, 105, 109, 101]⟩ v7 _ (Kd.C_below HL.out (‹Below w.heap.size w _ ∧ _›).1) hcl (Kd.C_below HG.out (‹Below w.heap.size w _ ∧ _›).1) hcg HV.out).mono ?_); rintro e w' ⟨rfl, ⟨nd, rfl⟩⟩) | (go_at_call 19; (with_reducible refine (PEntM.pannierref09_number.calls v7 n4 m3 b3 _ HN.out).mono ?_); rintro e wq ⟨rfl, hbn⟩; have hrn := (SP.drewN _).next hbn))
    go_wp2
    go_meet
    case rel => exact ⟨rfl, rfl, ⟨hrn⟩⟩
  case rest =>
    clear SP HV HN
    obtain ⟨rfl, rfl, hcut⟩ := hcut
    go_step
    exact ref_s13 w _ form typ t0 t1 t2 t3 t4 n0 n1 n2 n3 n4 Al Ag cl cg l g nm lk k R K path link user group m0 b0 m1 b1 m2 b2 m3 b3 _ _ _ _ _ _ _ _ _ _ _ _ _ _ _ _ _ _ _ _ _ _ _ _ _ _ _ _ _ _ _ _ _ _ _ _ _ _ _ _ _ _ _ _ _ _ _ _ _ _ _ _ _ _ _ _ _ _ _ _ _ _ _ _ _ _ _ _ _ _ _ _ _ _ _ _ _ _ _ _ _ _ _ _ _ _ _ _ _ _ _ _ _ _ _ _ _ _ _ _ _ _ _ _ _ _ _ _ _ _ _ _ _ _ _ _ _ _ _ _ _ _ _ _ _ _ _ _ _ _ _ _ _ _ _ _ _ _ _ _ _ _ _ _ _ _ _ _ _ _ _ _ _ _ _ _ _ _ _ _ _ _ _ _ _ _ _ _ _ _ _ _ _ _ _ _ _ _ _ _ _ _ _ _ _ _ _ _ _ _ _ _ _ _  HL.out hcl HG.out hcg hpz HR.out hcut

set_option maxHeartbeats 8000000 in
set_option maxRecDepth 100000 in
theorem ref_s11 (w wc : World) (form typ : Int) (t0 t1 t2 t3 t4 : ByteArray) (n0 n1 n2 n3 n4 : Int) (Al Ag : Option Addr) (cl cg : Nat) (l g : List PEntM.S62) (nm lk : ByteArray) (k : Int) (R : Value) (K : Nat) (path : ByteArray) (link : ByteArray) (user : ByteArray) (group : ByteArray) (m0 : Int) (b0 : Bool) (m1 : Int) (b1 : Bool) (u0 u6 u7 u8 u9 u11 u13 u18 u19 u20 u21 u22 u23 u24 u25 u26 u27 u28 u29 u30 u31 u32 u33 u34 u35 u36 u37 u38 u39 u40 u41 u42 u43 u44 u45 u46 u47 u48 u49 u50 u51 u52 u53 u54 u55 u56 u57 u58 u59 u60 u61 u62 u63 u64 u65 u66 u67 u68 u69 u70 u71 u72 u73 u74 u75 u76 u77 u78 u79 u80 u81 u82 u83 u84 u85 u86 u87 u88 u89 u90 u91 u92 u93 u94 u95 u96 u97 u98 u99 u100 u101 u102 u103 u104 u105 u106 u107 u108 u109 u110 u111 u112 u113 u114 u115 u116 u117 u118 u119 u120 u121 u122 u123 u124 u125 u126 u127 u128 u129 u130 u131 u132 u133 u134 u135 u136 u137 u138 u139 u140 u141 u142 u143 u144 u145 u146 u147 u148 u149 u150 u151 u152 u153 u154 u155 u156 u157 u158 u159 u160 u161 u162 u163 u164 u165 u166 u167 u168 u169 u170 u171 u172 u173 u174 u175 u176 u177 u178 u179 u180 u181 u182 u183 u184 u185 u186 u187 u188 u189 u190 u191 u192 u193 u194 u195 u196 u197 u198 u199 u200 u201 u202 u203 u204 u205 u206 u207 u208 : Value)
    (v6 : ByteArray) (m2 : Int) (b2 : Bool) (hv6 : PEntM.pannierref09_value.f K l g ⟨#[103, 105, 100]⟩ = some v6) (hn6 : PEntM.pannierref09_number.f v6 n2 = some (m2, b2))
    (v7 : ByteArray) (m3 : Int) (b3 : Bool) (hv7 : PEntM.pannierref09_value.f K l g ⟨#[109, 116, 105, 109, 101]⟩ = some v7) (hn7 : PEntM.pannierref09_number.f v7 n4 = some (m3, b3))
    (hl : Kd.C PEntM.k62 w Al l.length l) (hcl : l.length ≤ cl) (hg : Kd.C PEntM.k62 w Ag g.length g) (hcg : g.length ≤ cg) (hpz : path.size ≤ 9223372036854775807) (hR : R = if (b0 && b1 && b2 && b3) = true then madeV k form (n0 % 4096) path link user group (some m0) (some m1) (some m2) (some m3) else .tuple #[.agg (eCells ⟨#[]⟩ ⟨#[]⟩ 0 0 0 0 0 0 ⟨#[]⟩ ⟨#[]⟩), .int .i64 70])
    (S : Aside0 (RM w w.heap.size (w.heap.size + 1) (w.heap.size + 1 + 1) (xCells form typ t0 t1 t2 t3 t4 n0 n1 n2 n3 n4) (eCells path link k 0 0 0 0 0 user group) wc)) :
    Code.wp Tryd.prog (refRest 11) (bodyPost Tryd.prog Tryd.f7 (Gives R w)) ⟨(u0 :: (.slice Al l.length cl) :: (.slice Ag g.length cg) :: (.string nm) :: (.string lk) :: (.pointer (some ⟨w.heap.size, 0, none⟩)) :: u6 :: u7 :: u8 :: u9 :: (.pointer (some ⟨w.heap.size + 1, 0, none⟩)) :: u11 :: (.pointer (some ⟨w.heap.size + 1 + 1, 0, none⟩)) :: u13 :: (.int .i64 m0) :: (.bool b0) :: (.int .i64 m1) :: (.bool b1) :: u18 :: u19 :: u20 :: u21 :: u22 :: u23 :: u24 :: u25 :: u26 :: u27 :: u28 :: u29 :: u30 :: u31 :: u32 :: u33 :: u34 :: u35 :: u36 :: u37 :: u38 :: u39 :: u40 :: u41 :: u42 :: u43 :: u44 :: u45 :: u46 :: u47 :: u48 :: u49 :: u50 :: u51 :: u52 :: u53 :: u54 :: u55 :: u56 :: u57 :: u58 :: u59 :: u60 :: u61 :: u62 :: u63 :: u64 :: u65 :: u66 :: u67 :: u68 :: u69 :: u70 :: u71 :: u72 :: u73 :: u74 :: u75 :: u76 :: u77 :: u78 :: u79 :: u80 :: u81 :: u82 :: u83 :: u84 :: u85 :: u86 :: u87 :: u88 :: u89 :: u90 :: u91 :: u92 :: u93 :: u94 :: u95 :: u96 :: u97 :: u98 :: u99 :: u100 :: u101 :: u102 :: u103 :: u104 :: u105 :: u106 :: u107 :: u108 :: u109 :: u110 :: u111 :: u112 :: u113 :: u114 :: u115 :: u116 :: u117 :: u118 :: u119 :: u120 :: u121 :: u122 :: u123 :: u124 :: u125 :: u126 :: u127 :: u128 :: u129 :: u130 :: u131 :: u132 :: u133 :: u134 :: u135 :: u136 :: u137 :: u138 :: u139 :: u140 :: u141 :: u142 :: u143 :: u144 :: u145 :: u146 :: u147 :: u148 :: u149 :: u150 :: u151 :: u152 :: u153 :: u154 :: u155 :: u156 :: u157 :: u158 :: u159 :: u160 :: u161 :: u162 :: u163 :: u164 :: u165 :: u166 :: u167 :: u168 :: u169 :: u170 :: u171 :: u172 :: u173 :: u174 :: u175 :: u176 :: u177 :: u178 :: u179 :: u180 :: u181 :: u182 :: u183 :: u184 :: u185 :: u186 :: u187 :: u188 :: u189 :: u190 :: u191 :: u192 :: u193 :: u194 :: u195 :: u196 :: u197 :: u198 :: u199 :: u200 :: u201 :: u202 :: u203 :: u204 :: u205 :: u206 :: u207 :: u208 :: []).toArray, []⟩ wc := by
  conv => arg 2; whnf
  have HL := Lib.hid hl
  have HG := Lib.hid hg
  have HR := Lib.hid hR
  clear hl hg hR
  have HV := Aside0.mk hv6
  have HN := Aside0.mk hn6
  have SP := S.out
  clear hv6 hn6 S
  go_step
  go_cut [18, 19] (fun p q wc => p = .int .i64 m2 ∧ q = .bool b2 ∧ Aside0 (RM w w.heap.size (w.heap.size + 1) (w.heap.size + 1 + 1) (xCells form typ t0 t1 t2 t3 t4 n0 n1 n2 n3 n4) (eCells path link k 0 0 0 0 0 user group) wc))
  case first =>
    go_region_held3 (fun w' => Below w.heap.size w w' ∧ w'.cell? ⟨w.heap.size, 9, none⟩ = some (.int .i64 n2)) (first | exact RM.s9 (SP.drewN _) | exact RM.s9 SP.drew | exact RM.s9 hrn) (first | (go_at_call 18; (with_reducible refine (PEntM.pannierref09_value.calls K Al cl l Ag cg g ⟨#[103, 105, 100]⟩ v6 _ (Kd.C_below HL.out (‹Below w.heap.size w _ ∧ _›).1) hcl (Kd.C_below HG.out (‹Below w.heap.size w _ ∧ _›).1) hcg HV.out).mono ?_); rintro e w' ⟨rfl, ⟨nd, rfl⟩⟩) | (go_at_call 19; (with_reducible refine (PEntM.pannierref09_number.calls v6 n2 m2 b2 _ HN.out).mono ?_); rintro e wq ⟨rfl, hbn⟩; have hrn := (SP.drewN _).next hbn))
    go_wp2
    go_meet
    case rel => exact ⟨rfl, rfl, ⟨hrn⟩⟩
  case rest =>
    clear SP HV HN
    obtain ⟨rfl, rfl, hcut⟩ := hcut
    go_step
    exact ref_s12 w _ form typ t0 t1 t2 t3 t4 n0 n1 n2 n3 n4 Al Ag cl cg l g nm lk k R K path link user group m0 b0 m1 b1 m2 b2 _ _ _ _ _ _ _ _ _ _ _ _ _ _ _ _ _ _ _ _ _ _ _ _ _ _ _ _ _ _ _ _ _ _ _ _ _ _ _ _ _ _ _ _ _ _ _ _ _ _ _ _ _ _ _ _ _ _ _ _ _ _ _ _ _ _ _ _ _ _ _ _ _ _ _ _ _ _ _ _ _ _ _ _ _ _ _ _ _ _ _ _ _ _ _ _ _ _ _ _ _ _ _ _ _ _ _ _ _ _ _ _ _ _ _ _ _ _ _ _ _ _ _ _ _ _ _ _ _ _ _ _ _ _ _ _ _ _ _ _ _ _ _ _ _ _ _ _ _ _ _ _ _ _ _ _ _ _ _ _ _ _ _ _ _ _ _ _ _ _ _ _ _ _ _ _ _ _ _ _ _ _ _ _ _ _ _ _ _ _ _ _ _ _ _ _ v7 m3 b3 hv7 hn7 HL.out hcl HG.out hcg hpz HR.out hcut

set_option maxHeartbeats 8000000 in
set_option maxRecDepth 100000 in
theorem ref_s10 (w wc : World) (form typ : Int) (t0 t1 t2 t3 t4 : ByteArray) (n0 n1 n2 n3 n4 : Int) (Al Ag : Option Addr) (cl cg : Nat) (l g : List PEntM.S62) (nm lk : ByteArray) (k : Int) (R : Value) (K : Nat) (path : ByteArray) (link : ByteArray) (user : ByteArray) (group : ByteArray) (m0 : Int) (b0 : Bool) (u0 u6 u7 u8 u9 u11 u13 u16 u17 u18 u19 u20 u21 u22 u23 u24 u25 u26 u27 u28 u29 u30 u31 u32 u33 u34 u35 u36 u37 u38 u39 u40 u41 u42 u43 u44 u45 u46 u47 u48 u49 u50 u51 u52 u53 u54 u55 u56 u57 u58 u59 u60 u61 u62 u63 u64 u65 u66 u67 u68 u69 u70 u71 u72 u73 u74 u75 u76 u77 u78 u79 u80 u81 u82 u83 u84 u85 u86 u87 u88 u89 u90 u91 u92 u93 u94 u95 u96 u97 u98 u99 u100 u101 u102 u103 u104 u105 u106 u107 u108 u109 u110 u111 u112 u113 u114 u115 u116 u117 u118 u119 u120 u121 u122 u123 u124 u125 u126 u127 u128 u129 u130 u131 u132 u133 u134 u135 u136 u137 u138 u139 u140 u141 u142 u143 u144 u145 u146 u147 u148 u149 u150 u151 u152 u153 u154 u155 u156 u157 u158 u159 u160 u161 u162 u163 u164 u165 u166 u167 u168 u169 u170 u171 u172 u173 u174 u175 u176 u177 u178 u179 u180 u181 u182 u183 u184 u185 u186 u187 u188 u189 u190 u191 u192 u193 u194 u195 u196 u197 u198 u199 u200 u201 u202 u203 u204 u205 u206 u207 u208 : Value)
    (v5 : ByteArray) (m1 : Int) (b1 : Bool) (hv5 : PEntM.pannierref09_value.f K l g ⟨#[117, 105, 100]⟩ = some v5) (hn5 : PEntM.pannierref09_number.f v5 n1 = some (m1, b1))
    (v6 : ByteArray) (m2 : Int) (b2 : Bool) (hv6 : PEntM.pannierref09_value.f K l g ⟨#[103, 105, 100]⟩ = some v6) (hn6 : PEntM.pannierref09_number.f v6 n2 = some (m2, b2))
    (v7 : ByteArray) (m3 : Int) (b3 : Bool) (hv7 : PEntM.pannierref09_value.f K l g ⟨#[109, 116, 105, 109, 101]⟩ = some v7) (hn7 : PEntM.pannierref09_number.f v7 n4 = some (m3, b3))
    (hl : Kd.C PEntM.k62 w Al l.length l) (hcl : l.length ≤ cl) (hg : Kd.C PEntM.k62 w Ag g.length g) (hcg : g.length ≤ cg) (hpz : path.size ≤ 9223372036854775807) (hR : R = if (b0 && b1 && b2 && b3) = true then madeV k form (n0 % 4096) path link user group (some m0) (some m1) (some m2) (some m3) else .tuple #[.agg (eCells ⟨#[]⟩ ⟨#[]⟩ 0 0 0 0 0 0 ⟨#[]⟩ ⟨#[]⟩), .int .i64 70])
    (S : Aside0 (RM w w.heap.size (w.heap.size + 1) (w.heap.size + 1 + 1) (xCells form typ t0 t1 t2 t3 t4 n0 n1 n2 n3 n4) (eCells path link k 0 0 0 0 0 user group) wc)) :
    Code.wp Tryd.prog (refRest 10) (bodyPost Tryd.prog Tryd.f7 (Gives R w)) ⟨(u0 :: (.slice Al l.length cl) :: (.slice Ag g.length cg) :: (.string nm) :: (.string lk) :: (.pointer (some ⟨w.heap.size, 0, none⟩)) :: u6 :: u7 :: u8 :: u9 :: (.pointer (some ⟨w.heap.size + 1, 0, none⟩)) :: u11 :: (.pointer (some ⟨w.heap.size + 1 + 1, 0, none⟩)) :: u13 :: (.int .i64 m0) :: (.bool b0) :: u16 :: u17 :: u18 :: u19 :: u20 :: u21 :: u22 :: u23 :: u24 :: u25 :: u26 :: u27 :: u28 :: u29 :: u30 :: u31 :: u32 :: u33 :: u34 :: u35 :: u36 :: u37 :: u38 :: u39 :: u40 :: u41 :: u42 :: u43 :: u44 :: u45 :: u46 :: u47 :: u48 :: u49 :: u50 :: u51 :: u52 :: u53 :: u54 :: u55 :: u56 :: u57 :: u58 :: u59 :: u60 :: u61 :: u62 :: u63 :: u64 :: u65 :: u66 :: u67 :: u68 :: u69 :: u70 :: u71 :: u72 :: u73 :: u74 :: u75 :: u76 :: u77 :: u78 :: u79 :: u80 :: u81 :: u82 :: u83 :: u84 :: u85 :: u86 :: u87 :: u88 :: u89 :: u90 :: u91 :: u92 :: u93 :: u94 :: u95 :: u96 :: u97 :: u98 :: u99 :: u100 :: u101 :: u102 :: u103 :: u104 :: u105 :: u106 :: u107 :: u108 :: u109 :: u110 :: u111 :: u112 :: u113 :: u114 :: u115 :: u116 :: u117 :: u118 :: u119 :: u120 :: u121 :: u122 :: u123 :: u124 :: u125 :: u126 :: u127 :: u128 :: u129 :: u130 :: u131 :: u132 :: u133 :: u134 :: u135 :: u136 :: u137 :: u138 :: u139 :: u140 :: u141 :: u142 :: u143 :: u144 :: u145 :: u146 :: u147 :: u148 :: u149 :: u150 :: u151 :: u152 :: u153 :: u154 :: u155 :: u156 :: u157 :: u158 :: u159 :: u160 :: u161 :: u162 :: u163 :: u164 :: u165 :: u166 :: u167 :: u168 :: u169 :: u170 :: u171 :: u172 :: u173 :: u174 :: u175 :: u176 :: u177 :: u178 :: u179 :: u180 :: u181 :: u182 :: u183 :: u184 :: u185 :: u186 :: u187 :: u188 :: u189 :: u190 :: u191 :: u192 :: u193 :: u194 :: u195 :: u196 :: u197 :: u198 :: u199 :: u200 :: u201 :: u202 :: u203 :: u204 :: u205 :: u206 :: u207 :: u208 :: []).toArray, []⟩ wc := by
  conv => arg 2; whnf
  have HL := Lib.hid hl
  have HG := Lib.hid hg
  have HR := Lib.hid hR
  clear hl hg hR
  have HV := Aside0.mk hv5
  have HN := Aside0.mk hn5
  have SP := S.out
  clear hv5 hn5 S
  go_step
  go_cut [16, 17] (fun p q wc => p = .int .i64 m1 ∧ q = .bool b1 ∧ Aside0 (RM w w.heap.size (w.heap.size + 1) (w.heap.size + 1 + 1) (xCells form typ t0 t1 t2 t3 t4 n0 n1 n2 n3 n4) (eCells path link k 0 0 0 0 0 user group) wc))
  case first =>
    go_region_held3 (fun w' => Below w.heap.size w w' ∧ w'.cell? ⟨w.heap.size, 8, none⟩ = some (.int .i64 n1)) (first | exact RM.s8 (SP.drewN _) | exact RM.s8 SP.drew | exact RM.s8 hrn) (first | (go_at_call 18; (with_reducible refine (PEntM.pannierref09_value.calls K Al cl l Ag cg g ⟨#[117, 105, 100]⟩ v5 _ (Kd.C_below HL.out (‹Below w.heap.size w _ ∧ _›).1) hcl (Kd.C_below HG.out (‹Below w.heap.size w _ ∧ _›).1) hcg HV.out).mono ?_); rintro e w' ⟨rfl, ⟨nd, rfl⟩⟩) | (go_at_call 19; (with_reducible refine (PEntM.pannierref09_number.calls v5 n1 m1 b1 _ HN.out).mono ?_); rintro e wq ⟨rfl, hbn⟩; have hrn := (SP.drewN _).next hbn))
    go_wp2
    go_meet
    case rel => exact ⟨rfl, rfl, ⟨hrn⟩⟩
  case rest =>
    clear SP HV HN
    obtain ⟨rfl, rfl, hcut⟩ := hcut
    go_step
    exact ref_s11 w _ form typ t0 t1 t2 t3 t4 n0 n1 n2 n3 n4 Al Ag cl cg l g nm lk k R K path link user group m0 b0 m1 b1 _ _ _ _ _ _ _ _ _ _ _ _ _ _ _ _ _ _ _ _ _ _ _ _ _ _ _ _ _ _ _ _ _ _ _ _ _ _ _ _ _ _ _ _ _ _ _ _ _ _ _ _ _ _ _ _ _ _ _ _ _ _ _ _ _ _ _ _ _ _ _ _ _ _ _ _ _ _ _ _ _ _ _ _ _ _ _ _ _ _ _ _ _ _ _ _ _ _ _ _ _ _ _ _ _ _ _ _ _ _ _ _ _ _ _ _ _ _ _ _ _ _ _ _ _ _ _ _ _ _ _ _ _ _ _ _ _ _ _ _ _ _ _ _ _ _ _ _ _ _ _ _ _ _ _ _ _ _ _ _ _ _ _ _ _ _ _ _ _ _ _ _ _ _ _ _ _ _ _ _ _ _ _ _ _ _ _ _ _ _ _ _ _ _ _ _ _ _ v6 m2 b2 hv6 hn6 v7 m3 b3 hv7 hn7 HL.out hcl HG.out hcg hpz HR.out hcut

set_option maxHeartbeats 8000000 in
set_option maxRecDepth 100000 in
theorem ref_s9 (w wc : World) (form typ : Int) (t0 t1 t2 t3 t4 : ByteArray) (n0 n1 n2 n3 n4 : Int) (Al Ag : Option Addr) (cl cg : Nat) (l g : List PEntM.S62) (nm lk : ByteArray) (k : Int) (R : Value) (K : Nat) (path : ByteArray) (link : ByteArray) (user : ByteArray) (group : ByteArray) (u0 u6 u7 u8 u9 u11 u13 u14 u15 u16 u17 u18 u19 u20 u21 u22 u23 u24 u25 u26 u27 u28 u29 u30 u31 u32 u33 u34 u35 u36 u37 u38 u39 u40 u41 u42 u43 u44 u45 u46 u47 u48 u49 u50 u51 u52 u53 u54 u55 u56 u57 u58 u59 u60 u61 u62 u63 u64 u65 u66 u67 u68 u69 u70 u71 u72 u73 u74 u75 u76 u77 u78 u79 u80 u81 u82 u83 u84 u85 u86 u87 u88 u89 u90 u91 u92 u93 u94 u95 u96 u97 u98 u99 u100 u101 u102 u103 u104 u105 u106 u107 u108 u109 u110 u111 u112 u113 u114 u115 u116 u117 u118 u119 u120 u121 u122 u123 u124 u125 u126 u127 u128 u129 u130 u131 u132 u133 u134 u135 u136 u137 u138 u139 u140 u141 u142 u143 u144 u145 u146 u147 u148 u149 u150 u151 u152 u153 u154 u155 u156 u157 u158 u159 u160 u161 u162 u163 u164 u165 u166 u167 u168 u169 u170 u171 u172 u173 u174 u175 u176 u177 u178 u179 u180 u181 u182 u183 u184 u185 u186 u187 u188 u189 u190 u191 u192 u193 u194 u195 u196 u197 u198 u199 u200 u201 u202 u203 u204 u205 u206 u207 u208 : Value)
    (v4 : ByteArray) (m0 : Int) (b0 : Bool) (hv4 : PEntM.pannierref09_value.f K l g ⟨#[115, 105, 122, 101]⟩ = some v4) (hn4 : PEntM.pannierref09_number.f v4 n3 = some (m0, b0))
    (v5 : ByteArray) (m1 : Int) (b1 : Bool) (hv5 : PEntM.pannierref09_value.f K l g ⟨#[117, 105, 100]⟩ = some v5) (hn5 : PEntM.pannierref09_number.f v5 n1 = some (m1, b1))
    (v6 : ByteArray) (m2 : Int) (b2 : Bool) (hv6 : PEntM.pannierref09_value.f K l g ⟨#[103, 105, 100]⟩ = some v6) (hn6 : PEntM.pannierref09_number.f v6 n2 = some (m2, b2))
    (v7 : ByteArray) (m3 : Int) (b3 : Bool) (hv7 : PEntM.pannierref09_value.f K l g ⟨#[109, 116, 105, 109, 101]⟩ = some v7) (hn7 : PEntM.pannierref09_number.f v7 n4 = some (m3, b3))
    (hl : Kd.C PEntM.k62 w Al l.length l) (hcl : l.length ≤ cl) (hg : Kd.C PEntM.k62 w Ag g.length g) (hcg : g.length ≤ cg) (hpz : path.size ≤ 9223372036854775807) (hR : R = if (b0 && b1 && b2 && b3) = true then madeV k form (n0 % 4096) path link user group (some m0) (some m1) (some m2) (some m3) else .tuple #[.agg (eCells ⟨#[]⟩ ⟨#[]⟩ 0 0 0 0 0 0 ⟨#[]⟩ ⟨#[]⟩), .int .i64 70])
    (S : Aside0 (RM w w.heap.size (w.heap.size + 1) (w.heap.size + 1 + 1) (xCells form typ t0 t1 t2 t3 t4 n0 n1 n2 n3 n4) (eCells path link k 0 0 0 0 0 user group) wc)) :
    Code.wp Tryd.prog (refRest 9) (bodyPost Tryd.prog Tryd.f7 (Gives R w)) ⟨(u0 :: (.slice Al l.length cl) :: (.slice Ag g.length cg) :: (.string nm) :: (.string lk) :: (.pointer (some ⟨w.heap.size, 0, none⟩)) :: u6 :: u7 :: u8 :: u9 :: (.pointer (some ⟨w.heap.size + 1, 0, none⟩)) :: u11 :: (.pointer (some ⟨w.heap.size + 1 + 1, 0, none⟩)) :: u13 :: u14 :: u15 :: u16 :: u17 :: u18 :: u19 :: u20 :: u21 :: u22 :: u23 :: u24 :: u25 :: u26 :: u27 :: u28 :: u29 :: u30 :: u31 :: u32 :: u33 :: u34 :: u35 :: u36 :: u37 :: u38 :: u39 :: u40 :: u41 :: u42 :: u43 :: u44 :: u45 :: u46 :: u47 :: u48 :: u49 :: u50 :: u51 :: u52 :: u53 :: u54 :: u55 :: u56 :: u57 :: u58 :: u59 :: u60 :: u61 :: u62 :: u63 :: u64 :: u65 :: u66 :: u67 :: u68 :: u69 :: u70 :: u71 :: u72 :: u73 :: u74 :: u75 :: u76 :: u77 :: u78 :: u79 :: u80 :: u81 :: u82 :: u83 :: u84 :: u85 :: u86 :: u87 :: u88 :: u89 :: u90 :: u91 :: u92 :: u93 :: u94 :: u95 :: u96 :: u97 :: u98 :: u99 :: u100 :: u101 :: u102 :: u103 :: u104 :: u105 :: u106 :: u107 :: u108 :: u109 :: u110 :: u111 :: u112 :: u113 :: u114 :: u115 :: u116 :: u117 :: u118 :: u119 :: u120 :: u121 :: u122 :: u123 :: u124 :: u125 :: u126 :: u127 :: u128 :: u129 :: u130 :: u131 :: u132 :: u133 :: u134 :: u135 :: u136 :: u137 :: u138 :: u139 :: u140 :: u141 :: u142 :: u143 :: u144 :: u145 :: u146 :: u147 :: u148 :: u149 :: u150 :: u151 :: u152 :: u153 :: u154 :: u155 :: u156 :: u157 :: u158 :: u159 :: u160 :: u161 :: u162 :: u163 :: u164 :: u165 :: u166 :: u167 :: u168 :: u169 :: u170 :: u171 :: u172 :: u173 :: u174 :: u175 :: u176 :: u177 :: u178 :: u179 :: u180 :: u181 :: u182 :: u183 :: u184 :: u185 :: u186 :: u187 :: u188 :: u189 :: u190 :: u191 :: u192 :: u193 :: u194 :: u195 :: u196 :: u197 :: u198 :: u199 :: u200 :: u201 :: u202 :: u203 :: u204 :: u205 :: u206 :: u207 :: u208 :: []).toArray, []⟩ wc := by
  conv => arg 2; whnf
  have HL := Lib.hid hl
  have HG := Lib.hid hg
  have HR := Lib.hid hR
  clear hl hg hR
  have HV := Aside0.mk hv4
  have HN := Aside0.mk hn4
  have SP := S.out
  clear hv4 hn4 S
  go_step
  go_cut [14, 15] (fun p q wc => p = .int .i64 m0 ∧ q = .bool b0 ∧ Aside0 (RM w w.heap.size (w.heap.size + 1) (w.heap.size + 1 + 1) (xCells form typ t0 t1 t2 t3 t4 n0 n1 n2 n3 n4) (eCells path link k 0 0 0 0 0 user group) wc))
  case first =>
    go_region_held3 (fun w' => Below w.heap.size w w' ∧ w'.cell? ⟨w.heap.size, 10, none⟩ = some (.int .i64 n3)) (first | exact RM.s10 (SP.drewN _) | exact RM.s10 SP.drew | exact RM.s10 hrn) (first | (go_at_call 18; (with_reducible refine (PEntM.pannierref09_value.calls K Al cl l Ag cg g ⟨#[115, 105, 122, 101]⟩ v4 _ (Kd.C_below HL.out (‹Below w.heap.size w _ ∧ _›).1) hcl (Kd.C_below HG.out (‹Below w.heap.size w _ ∧ _›).1) hcg HV.out).mono ?_); rintro e w' ⟨rfl, ⟨nd, rfl⟩⟩) | (go_at_call 19; (with_reducible refine (PEntM.pannierref09_number.calls v4 n3 m0 b0 _ HN.out).mono ?_); rintro e wq ⟨rfl, hbn⟩; have hrn := (SP.drewN _).next hbn))
    go_wp2
    go_meet
    case rel => exact ⟨rfl, rfl, ⟨hrn⟩⟩
  case rest =>
    clear SP HV HN
    obtain ⟨rfl, rfl, hcut⟩ := hcut
    go_step
    exact ref_s10 w _ form typ t0 t1 t2 t3 t4 n0 n1 n2 n3 n4 Al Ag cl cg l g nm lk k R K path link user group m0 b0 _ _ _ _ _ _ _ _ _ _ _ _ _ _ _ _ _ _ _ _ _ _ _ _ _ _ _ _ _ _ _ _ _ _ _ _ _ _ _ _ _ _ _ _ _ _ _ _ _ _ _ _ _ _ _ _ _ _ _ _ _ _ _ _ _ _ _ _ _ _ _ _ _ _ _ _ _ _ _ _ _ _ _ _ _ _ _ _ _ _ _ _ _ _ _ _ _ _ _ _ _ _ _ _ _ _ _ _ _ _ _ _ _ _ _ _ _ _ _ _ _ _ _ _ _ _ _ _ _ _ _ _ _ _ _ _ _ _ _ _ _ _ _ _ _ _ _ _ _ _ _ _ _ _ _ _ _ _ _ _ _ _ _ _ _ _ _ _ _ _ _ _ _ _ _ _ _ _ _ _ _ _ _ _ _ _ _ _ _ _ _ _ _ _ _ _ _ _ _ _ v5 m1 b1 hv5 hn5 v6 m2 b2 hv6 hn6 v7 m3 b3 hv7 hn7 HL.out hcl HG.out hcg hpz HR.out hcut

set_option maxHeartbeats 8000000 in
set_option maxRecDepth 100000 in
theorem ref_s8 (w wc : World) (form typ : Int) (t0 t1 t2 t3 t4 : ByteArray) (n0 n1 n2 n3 n4 : Int) (Al Ag : Option Addr) (cl cg : Nat) (l g : List PEntM.S62) (nm lk : ByteArray) (k : Int) (R : Value) (K : Nat) (path : ByteArray) (link : ByteArray) (user : ByteArray) (u0 u6 u7 u8 u9 u11 u13 u14 u15 u16 u17 u18 u19 u20 u21 u22 u23 u24 u25 u26 u27 u28 u29 u30 u31 u32 u33 u34 u35 u36 u37 u38 u39 u40 u41 u42 u43 u44 u45 u46 u47 u48 u49 u50 u51 u52 u53 u54 u55 u56 u57 u58 u59 u60 u61 u62 u63 u64 u65 u66 u67 u68 u69 u70 u71 u72 u73 u74 u75 u76 u77 u78 u79 u80 u81 u82 u83 u84 u85 u86 u87 u88 u89 u90 u91 u92 u93 u94 u95 u96 u97 u98 u99 u100 u101 u102 u103 u104 u105 u106 u107 u108 u109 u110 u111 u112 u113 u114 u115 u116 u117 u118 u119 u120 u121 u122 u123 u124 u125 u126 u127 u128 u129 u130 u131 u132 u133 u134 u135 u136 u137 u138 u139 u140 u141 u142 u143 u144 u145 u146 u147 u148 u149 u150 u151 u152 u153 u154 u155 u156 u157 u158 u159 u160 u161 u162 u163 u164 u165 u166 u167 u168 u169 u170 u171 u172 u173 u174 u175 u176 u177 u178 u179 u180 u181 u182 u183 u184 u185 u186 u187 u188 u189 u190 u191 u192 u193 u194 u195 u196 u197 u198 u199 u200 u201 u202 u203 u204 u205 u206 u207 u208 : Value)
    (v3 group : ByteArray) (hv3 : PEntM.pannierref09_value.f K l g ⟨#[103, 110, 97, 109, 101]⟩ = some v3) (hp3 : PEntM.pannierref09_text.f v3 ⟨#[]⟩ t4 = some group)
    (v4 : ByteArray) (m0 : Int) (b0 : Bool) (hv4 : PEntM.pannierref09_value.f K l g ⟨#[115, 105, 122, 101]⟩ = some v4) (hn4 : PEntM.pannierref09_number.f v4 n3 = some (m0, b0))
    (v5 : ByteArray) (m1 : Int) (b1 : Bool) (hv5 : PEntM.pannierref09_value.f K l g ⟨#[117, 105, 100]⟩ = some v5) (hn5 : PEntM.pannierref09_number.f v5 n1 = some (m1, b1))
    (v6 : ByteArray) (m2 : Int) (b2 : Bool) (hv6 : PEntM.pannierref09_value.f K l g ⟨#[103, 105, 100]⟩ = some v6) (hn6 : PEntM.pannierref09_number.f v6 n2 = some (m2, b2))
    (v7 : ByteArray) (m3 : Int) (b3 : Bool) (hv7 : PEntM.pannierref09_value.f K l g ⟨#[109, 116, 105, 109, 101]⟩ = some v7) (hn7 : PEntM.pannierref09_number.f v7 n4 = some (m3, b3))
    (hl : Kd.C PEntM.k62 w Al l.length l) (hcl : l.length ≤ cl) (hg : Kd.C PEntM.k62 w Ag g.length g) (hcg : g.length ≤ cg) (hpz : path.size ≤ 9223372036854775807) (hR : R = if (b0 && b1 && b2 && b3) = true then madeV k form (n0 % 4096) path link user group (some m0) (some m1) (some m2) (some m3) else .tuple #[.agg (eCells ⟨#[]⟩ ⟨#[]⟩ 0 0 0 0 0 0 ⟨#[]⟩ ⟨#[]⟩), .int .i64 70])
    (S : Aside0 (RM w w.heap.size (w.heap.size + 1) (w.heap.size + 1 + 1) (xCells form typ t0 t1 t2 t3 t4 n0 n1 n2 n3 n4) (eCells path link k 0 0 0 0 0 user ⟨#[]⟩) wc)) :
    Code.wp Tryd.prog (refRest 8) (bodyPost Tryd.prog Tryd.f7 (Gives R w)) ⟨(u0 :: (.slice Al l.length cl) :: (.slice Ag g.length cg) :: (.string nm) :: (.string lk) :: (.pointer (some ⟨w.heap.size, 0, none⟩)) :: u6 :: u7 :: u8 :: u9 :: (.pointer (some ⟨w.heap.size + 1, 0, none⟩)) :: u11 :: (.pointer (some ⟨w.heap.size + 1 + 1, 0, none⟩)) :: u13 :: u14 :: u15 :: u16 :: u17 :: u18 :: u19 :: u20 :: u21 :: u22 :: u23 :: u24 :: u25 :: u26 :: u27 :: u28 :: u29 :: u30 :: u31 :: u32 :: u33 :: u34 :: u35 :: u36 :: u37 :: u38 :: u39 :: u40 :: u41 :: u42 :: u43 :: u44 :: u45 :: u46 :: u47 :: u48 :: u49 :: u50 :: u51 :: u52 :: u53 :: u54 :: u55 :: u56 :: u57 :: u58 :: u59 :: u60 :: u61 :: u62 :: u63 :: u64 :: u65 :: u66 :: u67 :: u68 :: u69 :: u70 :: u71 :: u72 :: u73 :: u74 :: u75 :: u76 :: u77 :: u78 :: u79 :: u80 :: u81 :: u82 :: u83 :: u84 :: u85 :: u86 :: u87 :: u88 :: u89 :: u90 :: u91 :: u92 :: u93 :: u94 :: u95 :: u96 :: u97 :: u98 :: u99 :: u100 :: u101 :: u102 :: u103 :: u104 :: u105 :: u106 :: u107 :: u108 :: u109 :: u110 :: u111 :: u112 :: u113 :: u114 :: u115 :: u116 :: u117 :: u118 :: u119 :: u120 :: u121 :: u122 :: u123 :: u124 :: u125 :: u126 :: u127 :: u128 :: u129 :: u130 :: u131 :: u132 :: u133 :: u134 :: u135 :: u136 :: u137 :: u138 :: u139 :: u140 :: u141 :: u142 :: u143 :: u144 :: u145 :: u146 :: u147 :: u148 :: u149 :: u150 :: u151 :: u152 :: u153 :: u154 :: u155 :: u156 :: u157 :: u158 :: u159 :: u160 :: u161 :: u162 :: u163 :: u164 :: u165 :: u166 :: u167 :: u168 :: u169 :: u170 :: u171 :: u172 :: u173 :: u174 :: u175 :: u176 :: u177 :: u178 :: u179 :: u180 :: u181 :: u182 :: u183 :: u184 :: u185 :: u186 :: u187 :: u188 :: u189 :: u190 :: u191 :: u192 :: u193 :: u194 :: u195 :: u196 :: u197 :: u198 :: u199 :: u200 :: u201 :: u202 :: u203 :: u204 :: u205 :: u206 :: u207 :: u208 :: []).toArray, []⟩ wc := by
  conv => arg 2; whnf
  have HL := Lib.hid hl
  have HG := Lib.hid hg
  have HR := Lib.hid hR
  clear hl hg hR
  have HV := Aside0.mk hv3
  have HP := Aside0.mk hp3
  have SP := S.out
  have e1 := SP.e.cell 9
  have f1 := SP.e.frozen 9
  simp at e1
  clear hv3 hp3 S
  go_step
  go_cut [] (fun wc => Aside0 (RM w w.heap.size (w.heap.size + 1) (w.heap.size + 1 + 1) (xCells form typ t0 t1 t2 t3 t4 n0 n1 n2 n3 n4) (eCells path link k 0 0 0 0 0 user group) wc))
  case first =>
    go_region_held3 (fun w' => Below w.heap.size w w' ∧ w'.cell? ⟨w.heap.size, 6, none⟩ = some (.string t4)) (first | exact RM.s6 (SP.drewN _) | exact RM.s6 ((SP.drewN _).set (by omega) 9 (.string group)) | exact RM.s6 SP.drew) (first | (go_at_call 18; (with_reducible refine (PEntM.pannierref09_value.calls K Al cl l Ag cg g ⟨#[103, 110, 97, 109, 101]⟩ v3 _ (Kd.C_below HL.out (‹Below w.heap.size w _ ∧ _›).1) hcl (Kd.C_below HG.out (‹Below w.heap.size w _ ∧ _›).1) hcg HV.out).mono ?_); rintro e w' ⟨rfl, ⟨nd, rfl⟩⟩) | (go_at_call 17; (with_reducible refine (PEntM.pannierref09_text.calls v3 ⟨#[]⟩ t4 group _ HP.out).mono ?_); rintro e w' ⟨rfl, ⟨nd2, rfl⟩⟩))
    go_wp2
    go_meet
    case rel => exact ⟨by simpa using (SP.drewN (1 + nd + nd2)).set (by omega) 9 (.string group)⟩
  case rest =>
    clear SP HV HP e1 f1
    go_step
    exact ref_s9 w _ form typ t0 t1 t2 t3 t4 n0 n1 n2 n3 n4 Al Ag cl cg l g nm lk k R K path link user group _ _ _ _ _ _ _ _ _ _ _ _ _ _ _ _ _ _ _ _ _ _ _ _ _ _ _ _ _ _ _ _ _ _ _ _ _ _ _ _ _ _ _ _ _ _ _ _ _ _ _ _ _ _ _ _ _ _ _ _ _ _ _ _ _ _ _ _ _ _ _ _ _ _ _ _ _ _ _ _ _ _ _ _ _ _ _ _ _ _ _ _ _ _ _ _ _ _ _ _ _ _ _ _ _ _ _ _ _ _ _ _ _ _ _ _ _ _ _ _ _ _ _ _ _ _ _ _ _ _ _ _ _ _ _ _ _ _ _ _ _ _ _ _ _ _ _ _ _ _ _ _ _ _ _ _ _ _ _ _ _ _ _ _ _ _ _ _ _ _ _ _ _ _ _ _ _ _ _ _ _ _ _ _ _ _ _ _ _ _ _ _ _ _ _ _ _ _ _ _ _ _ v4 m0 b0 hv4 hn4 v5 m1 b1 hv5 hn5 v6 m2 b2 hv6 hn6 v7 m3 b3 hv7 hn7 HL.out hcl HG.out hcg hpz HR.out hcut

set_option maxHeartbeats 8000000 in
set_option maxRecDepth 100000 in
theorem ref_s7 (w wc : World) (form typ : Int) (t0 t1 t2 t3 t4 : ByteArray) (n0 n1 n2 n3 n4 : Int) (Al Ag : Option Addr) (cl cg : Nat) (l g : List PEntM.S62) (nm lk : ByteArray) (k : Int) (R : Value) (K : Nat) (path : ByteArray) (link : ByteArray) (u0 u6 u7 u8 u9 u11 u13 u14 u15 u16 u17 u18 u19 u20 u21 u22 u23 u24 u25 u26 u27 u28 u29 u30 u31 u32 u33 u34 u35 u36 u37 u38 u39 u40 u41 u42 u43 u44 u45 u46 u47 u48 u49 u50 u51 u52 u53 u54 u55 u56 u57 u58 u59 u60 u61 u62 u63 u64 u65 u66 u67 u68 u69 u70 u71 u72 u73 u74 u75 u76 u77 u78 u79 u80 u81 u82 u83 u84 u85 u86 u87 u88 u89 u90 u91 u92 u93 u94 u95 u96 u97 u98 u99 u100 u101 u102 u103 u104 u105 u106 u107 u108 u109 u110 u111 u112 u113 u114 u115 u116 u117 u118 u119 u120 u121 u122 u123 u124 u125 u126 u127 u128 u129 u130 u131 u132 u133 u134 u135 u136 u137 u138 u139 u140 u141 u142 u143 u144 u145 u146 u147 u148 u149 u150 u151 u152 u153 u154 u155 u156 u157 u158 u159 u160 u161 u162 u163 u164 u165 u166 u167 u168 u169 u170 u171 u172 u173 u174 u175 u176 u177 u178 u179 u180 u181 u182 u183 u184 u185 u186 u187 u188 u189 u190 u191 u192 u193 u194 u195 u196 u197 u198 u199 u200 u201 u202 u203 u204 u205 u206 u207 u208 : Value)
    (v2 user : ByteArray) (hv2 : PEntM.pannierref09_value.f K l g ⟨#[117, 110, 97, 109, 101]⟩ = some v2) (hp2 : PEntM.pannierref09_text.f v2 ⟨#[]⟩ t3 = some user)
    (v3 group : ByteArray) (hv3 : PEntM.pannierref09_value.f K l g ⟨#[103, 110, 97, 109, 101]⟩ = some v3) (hp3 : PEntM.pannierref09_text.f v3 ⟨#[]⟩ t4 = some group)
    (v4 : ByteArray) (m0 : Int) (b0 : Bool) (hv4 : PEntM.pannierref09_value.f K l g ⟨#[115, 105, 122, 101]⟩ = some v4) (hn4 : PEntM.pannierref09_number.f v4 n3 = some (m0, b0))
    (v5 : ByteArray) (m1 : Int) (b1 : Bool) (hv5 : PEntM.pannierref09_value.f K l g ⟨#[117, 105, 100]⟩ = some v5) (hn5 : PEntM.pannierref09_number.f v5 n1 = some (m1, b1))
    (v6 : ByteArray) (m2 : Int) (b2 : Bool) (hv6 : PEntM.pannierref09_value.f K l g ⟨#[103, 105, 100]⟩ = some v6) (hn6 : PEntM.pannierref09_number.f v6 n2 = some (m2, b2))
    (v7 : ByteArray) (m3 : Int) (b3 : Bool) (hv7 : PEntM.pannierref09_value.f K l g ⟨#[109, 116, 105, 109, 101]⟩ = some v7) (hn7 : PEntM.pannierref09_number.f v7 n4 = some (m3, b3))
    (hl : Kd.C PEntM.k62 w Al l.length l) (hcl : l.length ≤ cl) (hg : Kd.C PEntM.k62 w Ag g.length g) (hcg : g.length ≤ cg) (hpz : path.size ≤ 9223372036854775807) (hR : R = if (b0 && b1 && b2 && b3) = true then madeV k form (n0 % 4096) path link user group (some m0) (some m1) (some m2) (some m3) else .tuple #[.agg (eCells ⟨#[]⟩ ⟨#[]⟩ 0 0 0 0 0 0 ⟨#[]⟩ ⟨#[]⟩), .int .i64 70])
    (S : Aside0 (RM w w.heap.size (w.heap.size + 1) (w.heap.size + 1 + 1) (xCells form typ t0 t1 t2 t3 t4 n0 n1 n2 n3 n4) (eCells path link k 0 0 0 0 0 ⟨#[]⟩ ⟨#[]⟩) wc)) :
    Code.wp Tryd.prog (refRest 7) (bodyPost Tryd.prog Tryd.f7 (Gives R w)) ⟨(u0 :: (.slice Al l.length cl) :: (.slice Ag g.length cg) :: (.string nm) :: (.string lk) :: (.pointer (some ⟨w.heap.size, 0, none⟩)) :: u6 :: u7 :: u8 :: u9 :: (.pointer (some ⟨w.heap.size + 1, 0, none⟩)) :: u11 :: (.pointer (some ⟨w.heap.size + 1 + 1, 0, none⟩)) :: u13 :: u14 :: u15 :: u16 :: u17 :: u18 :: u19 :: u20 :: u21 :: u22 :: u23 :: u24 :: u25 :: u26 :: u27 :: u28 :: u29 :: u30 :: u31 :: u32 :: u33 :: u34 :: u35 :: u36 :: u37 :: u38 :: u39 :: u40 :: u41 :: u42 :: u43 :: u44 :: u45 :: u46 :: u47 :: u48 :: u49 :: u50 :: u51 :: u52 :: u53 :: u54 :: u55 :: u56 :: u57 :: u58 :: u59 :: u60 :: u61 :: u62 :: u63 :: u64 :: u65 :: u66 :: u67 :: u68 :: u69 :: u70 :: u71 :: u72 :: u73 :: u74 :: u75 :: u76 :: u77 :: u78 :: u79 :: u80 :: u81 :: u82 :: u83 :: u84 :: u85 :: u86 :: u87 :: u88 :: u89 :: u90 :: u91 :: u92 :: u93 :: u94 :: u95 :: u96 :: u97 :: u98 :: u99 :: u100 :: u101 :: u102 :: u103 :: u104 :: u105 :: u106 :: u107 :: u108 :: u109 :: u110 :: u111 :: u112 :: u113 :: u114 :: u115 :: u116 :: u117 :: u118 :: u119 :: u120 :: u121 :: u122 :: u123 :: u124 :: u125 :: u126 :: u127 :: u128 :: u129 :: u130 :: u131 :: u132 :: u133 :: u134 :: u135 :: u136 :: u137 :: u138 :: u139 :: u140 :: u141 :: u142 :: u143 :: u144 :: u145 :: u146 :: u147 :: u148 :: u149 :: u150 :: u151 :: u152 :: u153 :: u154 :: u155 :: u156 :: u157 :: u158 :: u159 :: u160 :: u161 :: u162 :: u163 :: u164 :: u165 :: u166 :: u167 :: u168 :: u169 :: u170 :: u171 :: u172 :: u173 :: u174 :: u175 :: u176 :: u177 :: u178 :: u179 :: u180 :: u181 :: u182 :: u183 :: u184 :: u185 :: u186 :: u187 :: u188 :: u189 :: u190 :: u191 :: u192 :: u193 :: u194 :: u195 :: u196 :: u197 :: u198 :: u199 :: u200 :: u201 :: u202 :: u203 :: u204 :: u205 :: u206 :: u207 :: u208 :: []).toArray, []⟩ wc := by
  conv => arg 2; whnf
  have HL := Lib.hid hl
  have HG := Lib.hid hg
  have HR := Lib.hid hR
  clear hl hg hR
  have HV := Aside0.mk hv2
  have HP := Aside0.mk hp2
  have SP := S.out
  have e1 := SP.e.cell 8
  have f1 := SP.e.frozen 8
  simp at e1
  clear hv2 hp2 S
  go_step
  go_cut [] (fun wc => Aside0 (RM w w.heap.size (w.heap.size + 1) (w.heap.size + 1 + 1) (xCells form typ t0 t1 t2 t3 t4 n0 n1 n2 n3 n4) (eCells path link k 0 0 0 0 0 user ⟨#[]⟩) wc))
  case first =>
    go_region_held3 (fun w' => Below w.heap.size w w' ∧ w'.cell? ⟨w.heap.size, 5, none⟩ = some (.string t3)) (first | exact RM.s5 (SP.drewN _) | exact RM.s5 ((SP.drewN _).set (by omega) 8 (.string user)) | exact RM.s5 SP.drew) (first | (go_at_call 18; (with_reducible refine (PEntM.pannierref09_value.calls K Al cl l Ag cg g ⟨#[117, 110, 97, 109, 101]⟩ v2 _ (Kd.C_below HL.out (‹Below w.heap.size w _ ∧ _›).1) hcl (Kd.C_below HG.out (‹Below w.heap.size w _ ∧ _›).1) hcg HV.out).mono ?_); rintro e w' ⟨rfl, ⟨nd, rfl⟩⟩) | (go_at_call 17; (with_reducible refine (PEntM.pannierref09_text.calls v2 ⟨#[]⟩ t3 user _ HP.out).mono ?_); rintro e w' ⟨rfl, ⟨nd2, rfl⟩⟩))
    go_wp2
    go_meet
    case rel => exact ⟨by simpa using (SP.drewN (1 + nd + nd2)).set (by omega) 8 (.string user)⟩
  case rest =>
    clear SP HV HP e1 f1
    go_step
    exact ref_s8 w _ form typ t0 t1 t2 t3 t4 n0 n1 n2 n3 n4 Al Ag cl cg l g nm lk k R K path link user _ _ _ _ _ _ _ _ _ _ _ _ _ _ _ _ _ _ _ _ _ _ _ _ _ _ _ _ _ _ _ _ _ _ _ _ _ _ _ _ _ _ _ _ _ _ _ _ _ _ _ _ _ _ _ _ _ _ _ _ _ _ _ _ _ _ _ _ _ _ _ _ _ _ _ _ _ _ _ _ _ _ _ _ _ _ _ _ _ _ _ _ _ _ _ _ _ _ _ _ _ _ _ _ _ _ _ _ _ _ _ _ _ _ _ _ _ _ _ _ _ _ _ _ _ _ _ _ _ _ _ _ _ _ _ _ _ _ _ _ _ _ _ _ _ _ _ _ _ _ _ _ _ _ _ _ _ _ _ _ _ _ _ _ _ _ _ _ _ _ _ _ _ _ _ _ _ _ _ _ _ _ _ _ _ _ _ _ _ _ _ _ _ _ _ _ _ _ _ _ _ _ v3 group hv3 hp3 v4 m0 b0 hv4 hn4 v5 m1 b1 hv5 hn5 v6 m2 b2 hv6 hn6 v7 m3 b3 hv7 hn7 HL.out hcl HG.out hcg hpz HR.out hcut

set_option maxHeartbeats 8000000 in
set_option maxRecDepth 100000 in
theorem ref_s6 (w wc : World) (form typ : Int) (t0 t1 t2 t3 t4 : ByteArray) (n0 n1 n2 n3 n4 : Int) (Al Ag : Option Addr) (cl cg : Nat) (l g : List PEntM.S62) (nm lk : ByteArray) (k : Int) (R : Value) (K : Nat) (path : ByteArray) (u0 u6 u7 u8 u9 u11 u13 u14 u15 u16 u17 u18 u19 u20 u21 u22 u23 u24 u25 u26 u27 u28 u29 u30 u31 u32 u33 u34 u35 u36 u37 u38 u39 u40 u41 u42 u43 u44 u45 u46 u47 u48 u49 u50 u51 u52 u53 u54 u55 u56 u57 u58 u59 u60 u61 u62 u63 u64 u65 u66 u67 u68 u69 u70 u71 u72 u73 u74 u75 u76 u77 u78 u79 u80 u81 u82 u83 u84 u85 u86 u87 u88 u89 u90 u91 u92 u93 u94 u95 u96 u97 u98 u99 u100 u101 u102 u103 u104 u105 u106 u107 u108 u109 u110 u111 u112 u113 u114 u115 u116 u117 u118 u119 u120 u121 u122 u123 u124 u125 u126 u127 u128 u129 u130 u131 u132 u133 u134 u135 u136 u137 u138 u139 u140 u141 u142 u143 u144 u145 u146 u147 u148 u149 u150 u151 u152 u153 u154 u155 u156 u157 u158 u159 u160 u161 u162 u163 u164 u165 u166 u167 u168 u169 u170 u171 u172 u173 u174 u175 u176 u177 u178 u179 u180 u181 u182 u183 u184 u185 u186 u187 u188 u189 u190 u191 u192 u193 u194 u195 u196 u197 u198 u199 u200 u201 u202 u203 u204 u205 u206 u207 u208 : Value)
    (v1 link : ByteArray) (hv1 : PEntM.pannierref09_value.f K l g ⟨#[108, 105, 110, 107, 112, 97, 116, 104]⟩ = some v1) (hp1 : PEntM.pannierref09_text.f v1 lk t1 = some link)
    (v2 user : ByteArray) (hv2 : PEntM.pannierref09_value.f K l g ⟨#[117, 110, 97, 109, 101]⟩ = some v2) (hp2 : PEntM.pannierref09_text.f v2 ⟨#[]⟩ t3 = some user)
    (v3 group : ByteArray) (hv3 : PEntM.pannierref09_value.f K l g ⟨#[103, 110, 97, 109, 101]⟩ = some v3) (hp3 : PEntM.pannierref09_text.f v3 ⟨#[]⟩ t4 = some group)
    (v4 : ByteArray) (m0 : Int) (b0 : Bool) (hv4 : PEntM.pannierref09_value.f K l g ⟨#[115, 105, 122, 101]⟩ = some v4) (hn4 : PEntM.pannierref09_number.f v4 n3 = some (m0, b0))
    (v5 : ByteArray) (m1 : Int) (b1 : Bool) (hv5 : PEntM.pannierref09_value.f K l g ⟨#[117, 105, 100]⟩ = some v5) (hn5 : PEntM.pannierref09_number.f v5 n1 = some (m1, b1))
    (v6 : ByteArray) (m2 : Int) (b2 : Bool) (hv6 : PEntM.pannierref09_value.f K l g ⟨#[103, 105, 100]⟩ = some v6) (hn6 : PEntM.pannierref09_number.f v6 n2 = some (m2, b2))
    (v7 : ByteArray) (m3 : Int) (b3 : Bool) (hv7 : PEntM.pannierref09_value.f K l g ⟨#[109, 116, 105, 109, 101]⟩ = some v7) (hn7 : PEntM.pannierref09_number.f v7 n4 = some (m3, b3))
    (hl : Kd.C PEntM.k62 w Al l.length l) (hcl : l.length ≤ cl) (hg : Kd.C PEntM.k62 w Ag g.length g) (hcg : g.length ≤ cg) (hpz : path.size ≤ 9223372036854775807) (hR : R = if (b0 && b1 && b2 && b3) = true then madeV k form (n0 % 4096) path link user group (some m0) (some m1) (some m2) (some m3) else .tuple #[.agg (eCells ⟨#[]⟩ ⟨#[]⟩ 0 0 0 0 0 0 ⟨#[]⟩ ⟨#[]⟩), .int .i64 70])
    (S : Aside0 (RM w w.heap.size (w.heap.size + 1) (w.heap.size + 1 + 1) (xCells form typ t0 t1 t2 t3 t4 n0 n1 n2 n3 n4) (eCells path ⟨#[]⟩ k 0 0 0 0 0 ⟨#[]⟩ ⟨#[]⟩) wc)) :
    Code.wp Tryd.prog (refRest 6) (bodyPost Tryd.prog Tryd.f7 (Gives R w)) ⟨(u0 :: (.slice Al l.length cl) :: (.slice Ag g.length cg) :: (.string nm) :: (.string lk) :: (.pointer (some ⟨w.heap.size, 0, none⟩)) :: u6 :: u7 :: u8 :: u9 :: (.pointer (some ⟨w.heap.size + 1, 0, none⟩)) :: u11 :: (.pointer (some ⟨w.heap.size + 1 + 1, 0, none⟩)) :: u13 :: u14 :: u15 :: u16 :: u17 :: u18 :: u19 :: u20 :: u21 :: u22 :: u23 :: u24 :: u25 :: u26 :: u27 :: u28 :: u29 :: u30 :: u31 :: u32 :: u33 :: u34 :: u35 :: u36 :: u37 :: u38 :: u39 :: u40 :: u41 :: u42 :: u43 :: u44 :: u45 :: u46 :: u47 :: u48 :: u49 :: u50 :: u51 :: u52 :: u53 :: u54 :: u55 :: u56 :: u57 :: u58 :: u59 :: u60 :: u61 :: u62 :: u63 :: u64 :: u65 :: u66 :: u67 :: u68 :: u69 :: u70 :: u71 :: u72 :: u73 :: u74 :: u75 :: u76 :: u77 :: u78 :: u79 :: u80 :: u81 :: u82 :: u83 :: u84 :: u85 :: u86 :: u87 :: u88 :: u89 :: u90 :: u91 :: u92 :: u93 :: u94 :: u95 :: u96 :: u97 :: u98 :: u99 :: u100 :: u101 :: u102 :: u103 :: u104 :: u105 :: u106 :: u107 :: u108 :: u109 :: u110 :: u111 :: u112 :: u113 :: u114 :: u115 :: u116 :: u117 :: u118 :: u119 :: u120 :: u121 :: u122 :: u123 :: u124 :: u125 :: u126 :: u127 :: u128 :: u129 :: u130 :: u131 :: u132 :: u133 :: u134 :: u135 :: u136 :: u137 :: u138 :: u139 :: u140 :: u141 :: u142 :: u143 :: u144 :: u145 :: u146 :: u147 :: u148 :: u149 :: u150 :: u151 :: u152 :: u153 :: u154 :: u155 :: u156 :: u157 :: u158 :: u159 :: u160 :: u161 :: u162 :: u163 :: u164 :: u165 :: u166 :: u167 :: u168 :: u169 :: u170 :: u171 :: u172 :: u173 :: u174 :: u175 :: u176 :: u177 :: u178 :: u179 :: u180 :: u181 :: u182 :: u183 :: u184 :: u185 :: u186 :: u187 :: u188 :: u189 :: u190 :: u191 :: u192 :: u193 :: u194 :: u195 :: u196 :: u197 :: u198 :: u199 :: u200 :: u201 :: u202 :: u203 :: u204 :: u205 :: u206 :: u207 :: u208 :: []).toArray, []⟩ wc := by
  conv => arg 2; whnf
  have HL := Lib.hid hl
  have HG := Lib.hid hg
  have HR := Lib.hid hR
  clear hl hg hR
  have HV := Aside0.mk hv1
  have HP := Aside0.mk hp1
  have SP := S.out
  have e1 := SP.e.cell 1
  have f1 := SP.e.frozen 1
  simp at e1
  clear hv1 hp1 S
  go_step
  go_cut [] (fun wc => Aside0 (RM w w.heap.size (w.heap.size + 1) (w.heap.size + 1 + 1) (xCells form typ t0 t1 t2 t3 t4 n0 n1 n2 n3 n4) (eCells path link k 0 0 0 0 0 ⟨#[]⟩ ⟨#[]⟩) wc))
  case first =>
    go_region_held3 (fun w' => Below w.heap.size w w' ∧ w'.cell? ⟨w.heap.size, 3, none⟩ = some (.string t1)) (first | exact RM.s3 (SP.drewN _) | exact RM.s3 ((SP.drewN _).set (by omega) 1 (.string link)) | exact RM.s3 SP.drew) (first | (go_at_call 18; (with_reducible refine (PEntM.pannierref09_value.calls K Al cl l Ag cg g ⟨#[108, 105, 110, 107, 112, 97, 116, 104]⟩ v1 _ (Kd.C_below HL.out (‹Below w.heap.size w _ ∧ _›).1) hcl (Kd.C_below HG.out (‹Below w.heap.size w _ ∧ _›).1) hcg HV.out).mono ?_); rintro e w' ⟨rfl, ⟨nd, rfl⟩⟩) | (go_at_call 17; (with_reducible refine (PEntM.pannierref09_text.calls v1 lk t1 link _ HP.out).mono ?_); rintro e w' ⟨rfl, ⟨nd2, rfl⟩⟩))
    go_wp2
    go_meet
    case rel => exact ⟨by simpa using (SP.drewN (1 + nd + nd2)).set (by omega) 1 (.string link)⟩
  case rest =>
    clear SP HV HP e1 f1
    go_step
    exact ref_s7 w _ form typ t0 t1 t2 t3 t4 n0 n1 n2 n3 n4 Al Ag cl cg l g nm lk k R K path link _ _ _ _ _ _ _ _ _ _ _ _ _ _ _ _ _ _ _ _ _ _ _ _ _ _ _ _ _ _ _ _ _ _ _ _ _ _ _ _ _ _ _ _ _ _ _ _ _ _ _ _ _ _ _ _ _ _ _ _ _ _ _ _ _ _ _ _ _ _ _ _ _ _ _ _ _ _ _ _ _ _ _ _ _ _ _ _ _ _ _ _ _ _ _ _ _ _ _ _ _ _ _ _ _ _ _ _ _ _ _ _ _ _ _ _ _ _ _ _ _ _ _ _ _ _ _ _ _ _ _ _ _ _ _ _ _ _ _ _ _ _ _ _ _ _ _ _ _ _ _ _ _ _ _ _ _ _ _ _ _ _ _ _ _ _ _ _ _ _ _ _ _ _ _ _ _ _ _ _ _ _ _ _ _ _ _ _ _ _ _ _ _ _ _ _ _ _ _ _ _ _ v2 user hv2 hp2 v3 group hv3 hp3 v4 m0 b0 hv4 hn4 v5 m1 b1 hv5 hn5 v6 m2 b2 hv6 hn6 v7 m3 b3 hv7 hn7 HL.out hcl HG.out hcg hpz HR.out hcut

set_option maxHeartbeats 8000000 in
set_option maxRecDepth 100000 in
theorem ref_s5 (w wc : World) (form typ : Int) (t0 t1 t2 t3 t4 : ByteArray) (n0 n1 n2 n3 n4 : Int) (Al Ag : Option Addr) (cl cg : Nat) (l g : List PEntM.S62) (nm lk : ByteArray) (k : Int) (R : Value) (K : Nat) (u0 u6 u7 u8 u9 u11 u14 u15 u16 u17 u18 u19 u20 u21 u22 u23 u24 u25 u26 u27 u28 u29 u30 u31 u32 u33 u34 u35 u36 u37 u38 u39 u40 u41 u42 u43 u44 u45 u46 u47 u48 u49 u50 u51 u52 u53 u54 u55 u56 u57 u58 u59 u60 u61 u62 u63 u64 u65 u66 u67 u68 u69 u70 u71 u72 u73 u74 u75 u76 u77 u78 u79 u80 u81 u82 u83 u84 u85 u86 u87 u88 u89 u90 u91 u92 u93 u94 u95 u96 u97 u98 u99 u100 u101 u102 u103 u104 u105 u106 u107 u108 u109 u110 u111 u112 u113 u114 u115 u116 u117 u118 u119 u120 u121 u122 u123 u124 u125 u126 u127 u128 u129 u130 u131 u132 u133 u134 u135 u136 u137 u138 u139 u140 u141 u142 u143 u144 u145 u146 u147 u148 u149 u150 u151 u152 u153 u154 u155 u156 u157 u158 u159 u160 u161 u162 u163 u164 u165 u166 u167 u168 u169 u170 u171 u172 u173 u174 u175 u176 u177 u178 u179 u180 u181 u182 u183 u184 u185 u186 u187 u188 u189 u190 u191 u192 u193 u194 u195 u196 u197 u198 u199 u200 u201 u202 u203 u204 u205 u206 u207 u208 : Value)
    (v0 path : ByteArray) (hv0 : PEntM.pannierref09_value.f K l g ⟨#[112, 97, 116, 104]⟩ = some v0) (hp0 : PEntM.pannierref09_text.f v0 nm (fullOf t0 t2) = some path)
    (v1 link : ByteArray) (hv1 : PEntM.pannierref09_value.f K l g ⟨#[108, 105, 110, 107, 112, 97, 116, 104]⟩ = some v1) (hp1 : PEntM.pannierref09_text.f v1 lk t1 = some link)
    (v2 user : ByteArray) (hv2 : PEntM.pannierref09_value.f K l g ⟨#[117, 110, 97, 109, 101]⟩ = some v2) (hp2 : PEntM.pannierref09_text.f v2 ⟨#[]⟩ t3 = some user)
    (v3 group : ByteArray) (hv3 : PEntM.pannierref09_value.f K l g ⟨#[103, 110, 97, 109, 101]⟩ = some v3) (hp3 : PEntM.pannierref09_text.f v3 ⟨#[]⟩ t4 = some group)
    (v4 : ByteArray) (m0 : Int) (b0 : Bool) (hv4 : PEntM.pannierref09_value.f K l g ⟨#[115, 105, 122, 101]⟩ = some v4) (hn4 : PEntM.pannierref09_number.f v4 n3 = some (m0, b0))
    (v5 : ByteArray) (m1 : Int) (b1 : Bool) (hv5 : PEntM.pannierref09_value.f K l g ⟨#[117, 105, 100]⟩ = some v5) (hn5 : PEntM.pannierref09_number.f v5 n1 = some (m1, b1))
    (v6 : ByteArray) (m2 : Int) (b2 : Bool) (hv6 : PEntM.pannierref09_value.f K l g ⟨#[103, 105, 100]⟩ = some v6) (hn6 : PEntM.pannierref09_number.f v6 n2 = some (m2, b2))
    (v7 : ByteArray) (m3 : Int) (b3 : Bool) (hv7 : PEntM.pannierref09_value.f K l g ⟨#[109, 116, 105, 109, 101]⟩ = some v7) (hn7 : PEntM.pannierref09_number.f v7 n4 = some (m3, b3))
    (hl : Kd.C PEntM.k62 w Al l.length l) (hcl : l.length ≤ cl) (hg : Kd.C PEntM.k62 w Ag g.length g) (hcg : g.length ≤ cg) (hpz : path.size ≤ 9223372036854775807) (hR : R = if (b0 && b1 && b2 && b3) = true then madeV k form (n0 % 4096) path link user group (some m0) (some m1) (some m2) (some m3) else .tuple #[.agg (eCells ⟨#[]⟩ ⟨#[]⟩ 0 0 0 0 0 0 ⟨#[]⟩ ⟨#[]⟩), .int .i64 70])
    (S : Aside0 (RM w w.heap.size (w.heap.size + 1) (w.heap.size + 1 + 1) (xCells form typ t0 t1 t2 t3 t4 n0 n1 n2 n3 n4) (eCells ⟨#[]⟩ ⟨#[]⟩ k 0 0 0 0 0 ⟨#[]⟩ ⟨#[]⟩) wc)) :
    Code.wp Tryd.prog (refRest 5) (bodyPost Tryd.prog Tryd.f7 (Gives R w)) ⟨(u0 :: (.slice Al l.length cl) :: (.slice Ag g.length cg) :: (.string nm) :: (.string lk) :: (.pointer (some ⟨w.heap.size, 0, none⟩)) :: u6 :: u7 :: u8 :: u9 :: (.pointer (some ⟨w.heap.size + 1, 0, none⟩)) :: u11 :: (.pointer (some ⟨w.heap.size + 1 + 1, 0, none⟩)) :: (.string (fullOf t0 t2)) :: u14 :: u15 :: u16 :: u17 :: u18 :: u19 :: u20 :: u21 :: u22 :: u23 :: u24 :: u25 :: u26 :: u27 :: u28 :: u29 :: u30 :: u31 :: u32 :: u33 :: u34 :: u35 :: u36 :: u37 :: u38 :: u39 :: u40 :: u41 :: u42 :: u43 :: u44 :: u45 :: u46 :: u47 :: u48 :: u49 :: u50 :: u51 :: u52 :: u53 :: u54 :: u55 :: u56 :: u57 :: u58 :: u59 :: u60 :: u61 :: u62 :: u63 :: u64 :: u65 :: u66 :: u67 :: u68 :: u69 :: u70 :: u71 :: u72 :: u73 :: u74 :: u75 :: u76 :: u77 :: u78 :: u79 :: u80 :: u81 :: u82 :: u83 :: u84 :: u85 :: u86 :: u87 :: u88 :: u89 :: u90 :: u91 :: u92 :: u93 :: u94 :: u95 :: u96 :: u97 :: u98 :: u99 :: u100 :: u101 :: u102 :: u103 :: u104 :: u105 :: u106 :: u107 :: u108 :: u109 :: u110 :: u111 :: u112 :: u113 :: u114 :: u115 :: u116 :: u117 :: u118 :: u119 :: u120 :: u121 :: u122 :: u123 :: u124 :: u125 :: u126 :: u127 :: u128 :: u129 :: u130 :: u131 :: u132 :: u133 :: u134 :: u135 :: u136 :: u137 :: u138 :: u139 :: u140 :: u141 :: u142 :: u143 :: u144 :: u145 :: u146 :: u147 :: u148 :: u149 :: u150 :: u151 :: u152 :: u153 :: u154 :: u155 :: u156 :: u157 :: u158 :: u159 :: u160 :: u161 :: u162 :: u163 :: u164 :: u165 :: u166 :: u167 :: u168 :: u169 :: u170 :: u171 :: u172 :: u173 :: u174 :: u175 :: u176 :: u177 :: u178 :: u179 :: u180 :: u181 :: u182 :: u183 :: u184 :: u185 :: u186 :: u187 :: u188 :: u189 :: u190 :: u191 :: u192 :: u193 :: u194 :: u195 :: u196 :: u197 :: u198 :: u199 :: u200 :: u201 :: u202 :: u203 :: u204 :: u205 :: u206 :: u207 :: u208 :: []).toArray, []⟩ wc := by
  conv => arg 2; whnf
  have HL := Lib.hid hl
  have HG := Lib.hid hg
  have HR := Lib.hid hR
  clear hl hg hR
  have HV := Aside0.mk hv0
  have HP := Aside0.mk hp0
  have SP := S.out
  have e1 := SP.e.cell 0
  have f1 := SP.e.frozen 0
  simp at e1
  clear hv0 hp0 S
  go_step
  go_cut [] (fun wc => Aside0 (RM w w.heap.size (w.heap.size + 1) (w.heap.size + 1 + 1) (xCells form typ t0 t1 t2 t3 t4 n0 n1 n2 n3 n4) (eCells path ⟨#[]⟩ k 0 0 0 0 0 ⟨#[]⟩ ⟨#[]⟩) wc))
  case first =>
    go_wp2_with (first | (go_at_call 18; (with_reducible refine (PEntM.pannierref09_value.calls K Al cl l Ag cg g ⟨#[112, 97, 116, 104]⟩ v0 _ (Kd.C_below HL.out SP.b) hcl (Kd.C_below HG.out SP.b) hcg HV.out).mono ?_); rintro e w' ⟨rfl, ⟨nd, rfl⟩⟩) | (go_at_call 17; (with_reducible refine (PEntM.pannierref09_text.calls v0 nm (fullOf t0 t2) path _ HP.out).mono ?_); rintro e w' ⟨rfl, ⟨nd2, rfl⟩⟩))
    go_meet
    case rel => exact ⟨by simpa using (SP.drewN (nd + nd2)).set (by omega) 0 (.string path)⟩
  case rest =>
    clear SP HV HP e1 f1
    go_step
    exact ref_s6 w _ form typ t0 t1 t2 t3 t4 n0 n1 n2 n3 n4 Al Ag cl cg l g nm lk k R K path _ _ _ _ _ _ _ _ _ _ _ _ _ _ _ _ _ _ _ _ _ _ _ _ _ _ _ _ _ _ _ _ _ _ _ _ _ _ _ _ _ _ _ _ _ _ _ _ _ _ _ _ _ _ _ _ _ _ _ _ _ _ _ _ _ _ _ _ _ _ _ _ _ _ _ _ _ _ _ _ _ _ _ _ _ _ _ _ _ _ _ _ _ _ _ _ _ _ _ _ _ _ _ _ _ _ _ _ _ _ _ _ _ _ _ _ _ _ _ _ _ _ _ _ _ _ _ _ _ _ _ _ _ _ _ _ _ _ _ _ _ _ _ _ _ _ _ _ _ _ _ _ _ _ _ _ _ _ _ _ _ _ _ _ _ _ _ _ _ _ _ _ _ _ _ _ _ _ _ _ _ _ _ _ _ _ _ _ _ _ _ _ _ _ _ _ _ _ _ _ _ _ v1 link hv1 hp1 v2 user hv2 hp2 v3 group hv3 hp3 v4 m0 b0 hv4 hn4 v5 m1 b1 hv5 hn5 v6 m2 b2 hv6 hn6 v7 m3 b3 hv7 hn7 HL.out hcl HG.out hcg hpz HR.out hcut

set_option maxHeartbeats 8000000 in
set_option maxRecDepth 100000 in
theorem refMake_walk (form typ : Int) (t0 t1 t2 t3 t4 : ByteArray) (n0 n1 n2 n3 n4 : Int) (Al Ag : Option Addr) (cl cg : Nat) (l g : List PEntM.S62) (nm lk : ByteArray) (w : World)
    (hl : Kd.C PEntM.k62 w Al l.length l) (hcl : l.length ≤ cl) (hg : Kd.C PEntM.k62 w Ag g.length g) (hcg : g.length ≤ cg) (k : Int) (hk : kindR typ = k) (hk0 : k ≠ 0) (hfull : t2.size + t0.size ≤ 4611686018427387903) (R : Value) (K : Nat)
    (v0 path : ByteArray) (hv0 : PEntM.pannierref09_value.f K l g ⟨#[112, 97, 116, 104]⟩ = some v0) (hp0 : PEntM.pannierref09_text.f v0 nm (fullOf t0 t2) = some path)
    (v1 link : ByteArray) (hv1 : PEntM.pannierref09_value.f K l g ⟨#[108, 105, 110, 107, 112, 97, 116, 104]⟩ = some v1) (hp1 : PEntM.pannierref09_text.f v1 lk t1 = some link)
    (v2 user : ByteArray) (hv2 : PEntM.pannierref09_value.f K l g ⟨#[117, 110, 97, 109, 101]⟩ = some v2) (hp2 : PEntM.pannierref09_text.f v2 ⟨#[]⟩ t3 = some user)
    (v3 group : ByteArray) (hv3 : PEntM.pannierref09_value.f K l g ⟨#[103, 110, 97, 109, 101]⟩ = some v3) (hp3 : PEntM.pannierref09_text.f v3 ⟨#[]⟩ t4 = some group)
    (v4 : ByteArray) (m0 : Int) (b0 : Bool) (hv4 : PEntM.pannierref09_value.f K l g ⟨#[115, 105, 122, 101]⟩ = some v4) (hn4 : PEntM.pannierref09_number.f v4 n3 = some (m0, b0))
    (v5 : ByteArray) (m1 : Int) (b1 : Bool) (hv5 : PEntM.pannierref09_value.f K l g ⟨#[117, 105, 100]⟩ = some v5) (hn5 : PEntM.pannierref09_number.f v5 n1 = some (m1, b1))
    (v6 : ByteArray) (m2 : Int) (b2 : Bool) (hv6 : PEntM.pannierref09_value.f K l g ⟨#[103, 105, 100]⟩ = some v6) (hn6 : PEntM.pannierref09_number.f v6 n2 = some (m2, b2))
    (v7 : ByteArray) (m3 : Int) (b3 : Bool) (hv7 : PEntM.pannierref09_value.f K l g ⟨#[109, 116, 105, 109, 101]⟩ = some v7) (hn7 : PEntM.pannierref09_number.f v7 n4 = some (m3, b3))
    (hpz : path.size ≤ 9223372036854775807) (hR : R = if (b0 && b1 && b2 && b3) = true then madeV k form (n0 % 4096) path link user group (some m0) (some m1) (some m2) (some m3) else .tuple #[.agg (eCells ⟨#[]⟩ ⟨#[]⟩ 0 0 0 0 0 0 ⟨#[]⟩ ⟨#[]⟩), .int .i64 70]) :
    Calls Tryd.prog 7 #[.agg (xCells form typ t0 t1 t2 t3 t4 n0 n1 n2 n3 n4), .slice Al l.length cl, .slice Ag g.length cg, .string nm, .string lk] w (Gives R w) := by
  have HK := Lib.hid hk
  have HS := Lib.hid (fun k => RM.first w (xCells form typ t0 t1 t2 t3 t4 n0 n1 n2 n3 n4) k)
  have HL := Lib.hid hl
  have HR := Lib.hid hR
  have Hv0 := Aside0.mk hv0
  clear hv0
  have Hv1 := Aside0.mk hv1
  clear hv1
  have Hv2 := Aside0.mk hv2
  clear hv2
  have Hv3 := Aside0.mk hv3
  clear hv3
  have Hv4 := Aside0.mk hv4
  clear hv4
  have Hv5 := Aside0.mk hv5
  clear hv5
  have Hv6 := Aside0.mk hv6
  clear hv6
  have Hv7 := Aside0.mk hv7
  clear hv7
  have Hp0 := Aside0.mk hp0
  clear hp0
  have Hp1 := Aside0.mk hp1
  clear hp1
  have Hp2 := Aside0.mk hp2
  clear hp2
  have Hp3 := Aside0.mk hp3
  clear hp3
  have Hn4 := Aside0.mk hn4
  clear hn4
  have Hn5 := Aside0.mk hn5
  clear hn5
  have Hn6 := Aside0.mk hn6
  clear hn6
  have Hn7 := Aside0.mk hn7
  clear hn7
  have HG := Lib.hid hg
  clear hl hg hk hR
  go_enter Tryd.func7, Tryd.ntmps7
  go_upto_block 0 with (fail)
  go_cut [] (fun wc => Aside0 (RM w w.heap.size (w.heap.size + 1) (w.heap.size + 1 + 1) (xCells form typ t0 t1 t2 t3 t4 n0 n1 n2 n3 n4) (eCells ⟨#[]⟩ ⟨#[]⟩ k 0 0 0 0 0 ⟨#[]⟩ ⟨#[]⟩) wc))
  case first =>
    have hk := HK.out
    unfold kindR at hk
    have hc : typ = 0 ∨ typ = 48 ∨ typ = 55 ∨ typ = 49 ∨ typ = 50 ∨ typ = 53 := by
      by_cases a : typ = 0 ∨ typ = 48 ∨ typ = 55
      · omega
      · rw [if_neg a] at hk
        by_cases b : typ = 49
        · omega
        · rw [if_neg b] at hk
          by_cases c : typ = 50
          · omega
          · rw [if_neg c] at hk
            by_cases d : typ = 53
            · omega
            · rw [if_neg d] at hk; exact absurd hk.symm hk0
    rcases hc with rfl | rfl | rfl | rfl | rfl | rfl
    all_goals (simp at hk; subst hk; clear HK hk0; go_wp2; go_meet; (case rel => exact ⟨HS.out _⟩))
  case rest =>
    have S0 := hcut
    clear hcut HS
    have hx2 := S0.out.x.cell 2
    have hx4 := S0.out.x.cell 4
    simp at hx2 hx4
    go_upto_if 47 with (fail)
    go_cut [13] (fun v13 wc => v13 = .string (fullOf t0 t2) ∧ Aside0 (RM w w.heap.size (w.heap.size + 1) (w.heap.size + 1 + 1) (xCells form typ t0 t1 t2 t3 t4 n0 n1 n2 n3 n4) (eCells ⟨#[]⟩ ⟨#[]⟩ k 0 0 0 0 0 ⟨#[]⟩ ⟨#[]⟩) wc))
    case first =>
      by_cases ht : t2 = ⟨#[]⟩
      · have hf : fullOf t0 t2 = t0 := by rw [fullOf, if_pos ht]
        have he : t2.toList.isEmpty = true := by rw [ht, Lib.toList_data]; rfl
        rw [he]
        clear ht
        go_wp2
        go_meet
        case rel => first | exact ⟨by rw [hf], S0⟩ | exact ⟨_, by rw [hf], S0⟩
      · have hf : fullOf t0 t2 = t2 ++ ⟨#[47]⟩ ++ t0 := by rw [fullOf, if_neg ht]
        have he := str_nonempty.2 ht
        have hs1 : ¬ (9223372036854775807 < t2.size + 1) := by omega
        have hs2 : ¬ (9223372036854775807 < t2.size + 1 + t0.size) := by omega
        clear ht
        rw [he]
        go_wp2
        go_meet
        case rel => first | exact ⟨by rw [hf], S0⟩ | exact ⟨_, by rw [hf], S0⟩
    case rest =>
      clear S0 hx2 hx4
      obtain ⟨rfl, hcut⟩ := hcut
      go_step
      exact ref_s5 w _ form typ t0 t1 t2 t3 t4 n0 n1 n2 n3 n4 Al Ag cl cg l g nm lk k R K _ _ _ _ _ _ _ _ _ _ _ _ _ _ _ _ _ _ _ _ _ _ _ _ _ _ _ _ _ _ _ _ _ _ _ _ _ _ _ _ _ _ _ _ _ _ _ _ _ _ _ _ _ _ _ _ _ _ _ _ _ _ _ _ _ _ _ _ _ _ _ _ _ _ _ _ _ _ _ _ _ _ _ _ _ _ _ _ _ _ _ _ _ _ _ _ _ _ _ _ _ _ _ _ _ _ _ _ _ _ _ _ _ _ _ _ _ _ _ _ _ _ _ _ _ _ _ _ _ _ _ _ _ _ _ _ _ _ _ _ _ _ _ _ _ _ _ _ _ _ _ _ _ _ _ _ _ _ _ _ _ _ _ _ _ _ _ _ _ _ _ _ _ _ _ _ _ _ _ _ _ _ _ _ _ _ _ _ _ _ _ _ _ _ _ _ _ _ _ _ _ v0 path Hv0.out Hp0.out v1 link Hv1.out Hp1.out v2 user Hv2.out Hp2.out v3 group Hv3.out Hp3.out v4 m0 b0 Hv4.out Hn4.out v5 m1 b1 Hv5.out Hn5.out v6 m2 b2 Hv6.out Hn6.out v7 m3 b3 Hv7.out Hn7.out HL.out hcl HG.out hcg hpz HR.out hcut
end Go.Proofs.YthmleoceakonjaaDoor
