/-
  pannierref09.Make behind its texts and numbers: the mode, the old form's directory, the size, the link, the end.
-/
import Derived.Test.YthmleoceakonjaaDoorEntR
namespace Go.Proofs.YthmleoceakonjaaDoor
set_option linter.unusedVariables false
set_option linter.unusedSimpArgs false
open Go.RowKit Go.Proofs.YthmleoceakonjaaDoorW.PrintWords Go.Proofs.YthmleoceakonjaaDoorW.PrintLast Go.Proofs.YthmleoceakonjaaDoorW.PrintMore

def dropC : Nat → Code → Code
  | 0, c => c
  | n + 1, .seq _ b => dropC n b
  | _ + 1, c => c
noncomputable def refRest (n : Nat) : Code := dropC n (Tryd.f7.body.getD .skip)
theorem RM.args {W wc : World} {bx br be : Nat} {form typ : Int} {t0 t1 t2 t3 t4 : ByteArray} {n0 n1 n2 n3 n4 : Int} {e : Array Value} (s : RM W bx br be (xCells form typ t0 t1 t2 t3 t4 n0 n1 n2 n3 n4) e wc) : wc.cell? ⟨bx, 0, none⟩ = some (.int .i64 form) ∧ wc.cell? ⟨bx, 7, none⟩ = some (.int .i64 n0) :=
  ⟨s.x.cell 0, s.x.cell 7⟩
theorem RM.ents {W wc : World} {bx br be : Nat} {x : Array Value} {e0 e1 e2 e3 e4 e5 e6 e7 e8 e9 : Value} (s : RM W bx br be x #[e0, e1, e2, e3, e4, e5, e6, e7, e8, e9] wc) : wc.cell? ⟨be, 0, none⟩ = some e0 ∧ wc.cell? ⟨be, 1, none⟩ = some e1 ∧ wc.cell? ⟨be, 2, none⟩ = some e2 ∧ wc.cell? ⟨be, 3, none⟩ = some e3 ∧ wc.cell? ⟨be, 4, none⟩ = some e4 ∧ wc.cell? ⟨be, 5, none⟩ = some e5 ∧ wc.cell? ⟨be, 6, none⟩ = some e6 ∧ wc.cell? ⟨be, 7, none⟩ = some e7 ∧ wc.cell? ⟨be, 8, none⟩ = some e8 ∧ wc.cell? ⟨be, 9, none⟩ = some e9 :=
  ⟨s.e.cell 0, s.e.cell 1, s.e.cell 2, s.e.cell 3, s.e.cell 4, s.e.cell 5, s.e.cell 6, s.e.cell 7, s.e.cell 8, s.e.cell 9⟩
theorem RM.entsf {W wc : World} {bx br be : Nat} {x e : Array Value} (s : RM W bx br be x e wc) : wc.frozen? ⟨be, 0, none⟩ = false ∧ wc.frozen? ⟨be, 1, none⟩ = false ∧ wc.frozen? ⟨be, 2, none⟩ = false ∧ wc.frozen? ⟨be, 3, none⟩ = false ∧ wc.frozen? ⟨be, 4, none⟩ = false ∧ wc.frozen? ⟨be, 5, none⟩ = false ∧ wc.frozen? ⟨be, 6, none⟩ = false ∧ wc.frozen? ⟨be, 7, none⟩ = false ∧ wc.frozen? ⟨be, 8, none⟩ = false ∧ wc.frozen? ⟨be, 9, none⟩ = false :=
  ⟨s.e.frozen 0, s.e.frozen 1, s.e.frozen 2, s.e.frozen 3, s.e.frozen 4, s.e.frozen 5, s.e.frozen 6, s.e.frozen 7, s.e.frozen 8, s.e.frozen 9⟩
theorem RM.ress {W wc : World} {bx br be : Nat} {x e : Array Value} (s : RM W bx br be x e wc) : wc.cell? ⟨br, 0, none⟩ = some (.string ⟨#[]⟩) ∧ wc.cell? ⟨br, 1, none⟩ = some (.string ⟨#[]⟩) ∧ wc.cell? ⟨br, 2, none⟩ = some (.int .i64 0) ∧ wc.cell? ⟨br, 3, none⟩ = some (.int .i64 0) ∧ wc.cell? ⟨br, 4, none⟩ = some (.int .i64 0) ∧ wc.cell? ⟨br, 5, none⟩ = some (.int .i64 0) ∧ wc.cell? ⟨br, 6, none⟩ = some (.int .i64 0) ∧ wc.cell? ⟨br, 7, none⟩ = some (.int .i64 0) ∧ wc.cell? ⟨br, 8, none⟩ = some (.string ⟨#[]⟩) ∧ wc.cell? ⟨br, 9, none⟩ = some (.string ⟨#[]⟩) :=
  ⟨s.r.cell 0, s.r.cell 1, s.r.cell 2, s.r.cell 3, s.r.cell 4, s.r.cell 5, s.r.cell 6, s.r.cell 7, s.r.cell 8, s.r.cell 9⟩
theorem RM.ressf {W wc : World} {bx br be : Nat} {x e : Array Value} (s : RM W bx br be x e wc) : wc.frozen? ⟨br, 0, none⟩ = false ∧ wc.frozen? ⟨br, 1, none⟩ = false ∧ wc.frozen? ⟨br, 2, none⟩ = false ∧ wc.frozen? ⟨br, 3, none⟩ = false ∧ wc.frozen? ⟨br, 4, none⟩ = false ∧ wc.frozen? ⟨br, 5, none⟩ = false ∧ wc.frozen? ⟨br, 6, none⟩ = false ∧ wc.frozen? ⟨br, 7, none⟩ = false ∧ wc.frozen? ⟨br, 8, none⟩ = false ∧ wc.frozen? ⟨br, 9, none⟩ = false :=
  ⟨s.r.frozen 0, s.r.frozen 1, s.r.frozen 2, s.r.frozen 3, s.r.frozen 4, s.r.frozen 5, s.r.frozen 6, s.r.frozen 7, s.r.frozen 8, s.r.frozen 9⟩
theorem RM.setR {W wc : World} {bx br be : Nat} {x e : Array Value} {r : Array Value} (i : Nat) (v : Value) (hx : Blk wc bx 36 x) (hr : Blk wc br 29 r) (hb : Below W.heap.size W wc) (hbr : W.heap.size ≤ br) :
    Blk (wc.setCell ⟨br, i, none⟩ v) br 29 (r.setIfInBounds i v) ∧ Below W.heap.size W (wc.setCell ⟨br, i, none⟩ v) := ⟨hr.set_ i v, hb.setCell (p := ⟨br, i, none⟩) hbr v⟩
theorem blk_ten {w wc : World} (v0 v1 v2 v3 v4 v5 v6 v7 v8 v9 z0 z1 z2 z3 z4 z5 z6 z7 z8 z9 : Value) (hr : Blk wc (w.heap.size + 1) 29 #[z0, z1, z2, z3, z4, z5, z6, z7, z8, z9]) (hb : Below w.heap.size w wc) :
    Blk (World.setCell (World.setCell (World.setCell (World.setCell (World.setCell (World.setCell (World.setCell (World.setCell (World.setCell (World.setCell wc ⟨w.heap.size + 1, 0, none⟩ v0) ⟨w.heap.size + 1, 1, none⟩ v1) ⟨w.heap.size + 1, 2, none⟩ v2) ⟨w.heap.size + 1, 3, none⟩ v3) ⟨w.heap.size + 1, 4, none⟩ v4) ⟨w.heap.size + 1, 5, none⟩ v5) ⟨w.heap.size + 1, 6, none⟩ v6) ⟨w.heap.size + 1, 7, none⟩ v7) ⟨w.heap.size + 1, 8, none⟩ v8) ⟨w.heap.size + 1, 9, none⟩ v9) (w.heap.size + 1) 29 #[v0, v1, v2, v3, v4, v5, v6, v7, v8, v9] ∧ Below w.heap.size w (World.setCell (World.setCell (World.setCell (World.setCell (World.setCell (World.setCell (World.setCell (World.setCell (World.setCell (World.setCell wc ⟨w.heap.size + 1, 0, none⟩ v0) ⟨w.heap.size + 1, 1, none⟩ v1) ⟨w.heap.size + 1, 2, none⟩ v2) ⟨w.heap.size + 1, 3, none⟩ v3) ⟨w.heap.size + 1, 4, none⟩ v4) ⟨w.heap.size + 1, 5, none⟩ v5) ⟨w.heap.size + 1, 6, none⟩ v6) ⟨w.heap.size + 1, 7, none⟩ v7) ⟨w.heap.size + 1, 8, none⟩ v8) ⟨w.heap.size + 1, 9, none⟩ v9) := by
  refine ⟨?_, ?_⟩
  · have h := (((((((((hr.set_ 0 v0).set_ 1 v1).set_ 2 v2).set_ 3 v3).set_ 4 v4).set_ 5 v5).set_ 6 v6).set_ 7 v7).set_ 8 v8).set_ 9 v9
    simpa using h
  · have k : ∀ (W' : World) (i : Nat) (v : Value), Below w.heap.size w W' → Below w.heap.size w (W'.setCell ⟨w.heap.size + 1, i, none⟩ v) := fun W' i v h => h.setCell (p := ⟨w.heap.size + 1, i, none⟩) (by show _ ≤ w.heap.size + 1; omega) v
    exact k _ _ _ (k _ _ _ (k _ _ _ (k _ _ _ (k _ _ _ (k _ _ _ (k _ _ _ (k _ _ _ (k _ _ _ (k _ _ _ hb)))))))))
theorem ref_rets {w wc : World} {x e tmps : Array Value} {V : Value} (s : RM w w.heap.size (w.heap.size + 1) (w.heap.size + 1 + 1) x e wc) (v0 v1 v2 v3 v4 v5 v6 v7 v8 v9 u : Value) (hp : tmps.getD 10 undef = .pointer (some ⟨w.heap.size + 1, 0, none⟩)) (hu : tmps.getD 11 undef = u)
    (hV : V = .tuple #[.agg #[v0, v1, v2, v3, v4, v5, v6, v7, v8, v9], u]) : bodyPost Tryd.prog Tryd.f7 (Gives V w) .ret { tmps := tmps, defers := [] } (World.setCell (World.setCell (World.setCell (World.setCell (World.setCell (World.setCell (World.setCell (World.setCell (World.setCell (World.setCell wc ⟨w.heap.size + 1, 0, none⟩ v0) ⟨w.heap.size + 1, 1, none⟩ v1) ⟨w.heap.size + 1, 2, none⟩ v2) ⟨w.heap.size + 1, 3, none⟩ v3) ⟨w.heap.size + 1, 4, none⟩ v4) ⟨w.heap.size + 1, 5, none⟩ v5) ⟨w.heap.size + 1, 6, none⟩ v6) ⟨w.heap.size + 1, 7, none⟩ v7) ⟨w.heap.size + 1, 8, none⟩ v8) ⟨w.heap.size + 1, 9, none⟩ v9) :=
  bodyPost_ret (by rw [hV, ← hu]; exact results_ct rfl _ _ (w.heap.size + 1) 29 #[v0, v1, v2, v3, v4, v5, v6, v7, v8, v9] (0, 0) _ hp (blk_ten v0 v1 v2 v3 v4 v5 v6 v7 v8 v9 _ _ _ _ _ _ _ _ _ _ s.r s.b).1 Tryd.underlying29 rfl (by kernel_rfl)) rfl ⟨rfl, (blk_ten v0 v1 v2 v3 v4 v5 v6 v7 v8 v9 _ _ _ _ _ _ _ _ _ _ s.r s.b).2⟩
set_option maxHeartbeats 8000000 in
set_option maxRecDepth 100000 in
theorem ref_t24 (w wc : World) (form typ : Int) (t0 t1 t2 t3 t4 : ByteArray) (n0 n1 n2 n3 n4 : Int) (path link user group : ByteArray) (m0 m1 m2 m3 : Int) (k md s : Int) (l : ByteArray) (u0 u1 u2 u3 u4 u6 u7 u8 u9 u11 u13 u15 u17 u19 u21 u22 u23 u24 u25 u26 u27 u28 u29 u30 u31 u32 u33 u34 u35 u36 u37 u38 u39 u40 u41 u42 u43 u44 u45 u46 u47 u48 u49 u50 u51 u52 u53 u54 u55 u56 u57 u58 u59 u60 u61 u62 u63 u64 u65 u66 u67 u68 u69 u70 u71 u72 u73 u74 u75 u76 u77 u78 u79 u80 u81 u82 u83 u84 u85 u86 u87 u88 u89 u90 u91 u92 u93 u94 u95 u96 u97 u98 u99 u100 u101 u102 u103 u104 u105 u106 u107 u108 u109 u110 u111 u112 u113 u114 u115 u116 u117 u118 u119 u120 u121 u122 u123 u124 u125 u126 u127 u128 u129 u130 u131 u132 u133 u134 u135 u136 u137 u138 u139 u140 u141 u142 u143 u144 u145 u146 u147 u148 u149 u150 u151 u152 u153 u154 u155 u156 u157 u158 u159 u160 u161 u162 u163 u164 u165 u166 u167 u168 u169 u170 u171 u172 u173 u174 u175 u176 u177 u178 u179 u180 u181 u182 u183 u184 u185 u186 u187 u188 u189 u190 u191 u192 u193 u194 u195 u196 u197 u198 u199 u200 u201 u202 u203 u204 u205 u206 u207 u208 : Value) (V : Value)
    (S : Aside0 (RM w w.heap.size (w.heap.size + 1) (w.heap.size + 1 + 1) (xCells form typ t0 t1 t2 t3 t4 n0 n1 n2 n3 n4) (eCells path l k md m1 m2 m3 s user group) wc)) (hV : V = finV md path user group m1 m2 m3 k s l) :
    Code.wp Tryd.prog (refRest 24) (bodyPost Tryd.prog Tryd.f7 (Gives V w)) ⟨(u0 :: u1 :: u2 :: u3 :: u4 :: (.pointer (some ⟨w.heap.size, 0, none⟩)) :: u6 :: u7 :: u8 :: u9 :: (.pointer (some ⟨w.heap.size + 1, 0, none⟩)) :: u11 :: (.pointer (some ⟨w.heap.size + 1 + 1, 0, none⟩)) :: u13 :: (.int .i64 m0) :: u15 :: (.int .i64 m1) :: u17 :: (.int .i64 m2) :: u19 :: (.int .i64 m3) :: u21 :: u22 :: u23 :: u24 :: u25 :: u26 :: u27 :: u28 :: u29 :: u30 :: u31 :: u32 :: u33 :: u34 :: u35 :: u36 :: u37 :: u38 :: u39 :: u40 :: u41 :: u42 :: u43 :: u44 :: u45 :: u46 :: u47 :: u48 :: u49 :: u50 :: u51 :: u52 :: u53 :: u54 :: u55 :: u56 :: u57 :: u58 :: u59 :: u60 :: u61 :: u62 :: u63 :: u64 :: u65 :: u66 :: u67 :: u68 :: u69 :: u70 :: u71 :: u72 :: u73 :: u74 :: u75 :: u76 :: u77 :: u78 :: u79 :: u80 :: u81 :: u82 :: u83 :: u84 :: u85 :: u86 :: u87 :: u88 :: u89 :: u90 :: u91 :: u92 :: u93 :: u94 :: u95 :: u96 :: u97 :: u98 :: u99 :: u100 :: u101 :: u102 :: u103 :: u104 :: u105 :: u106 :: u107 :: u108 :: u109 :: u110 :: u111 :: u112 :: u113 :: u114 :: u115 :: u116 :: u117 :: u118 :: u119 :: u120 :: u121 :: u122 :: u123 :: u124 :: u125 :: u126 :: u127 :: u128 :: u129 :: u130 :: u131 :: u132 :: u133 :: u134 :: u135 :: u136 :: u137 :: u138 :: u139 :: u140 :: u141 :: u142 :: u143 :: u144 :: u145 :: u146 :: u147 :: u148 :: u149 :: u150 :: u151 :: u152 :: u153 :: u154 :: u155 :: u156 :: u157 :: u158 :: u159 :: u160 :: u161 :: u162 :: u163 :: u164 :: u165 :: u166 :: u167 :: u168 :: u169 :: u170 :: u171 :: u172 :: u173 :: u174 :: u175 :: u176 :: u177 :: u178 :: u179 :: u180 :: u181 :: u182 :: u183 :: u184 :: u185 :: u186 :: u187 :: u188 :: u189 :: u190 :: u191 :: u192 :: u193 :: u194 :: u195 :: u196 :: u197 :: u198 :: u199 :: u200 :: u201 :: u202 :: u203 :: u204 :: u205 :: u206 :: u207 :: u208 :: []).toArray, []⟩ wc := by
  conv => arg 2; whnf
  have S' := S.out
  obtain ⟨c0, c1, c2, c3, c4, c5, c6, c7, c8, c9⟩ := S'.ents
  obtain ⟨r0, r1, r2, r3, r4, r5, r6, r7, r8, r9⟩ := S'.ress
  obtain ⟨f0, f1, f2, f3, f4, f5, f6, f7, f8, f9⟩ := S'.ressf
  have HV := Lib.hid hV
  have HS := Lib.hid S'
  clear hV S S'
  by_cases h : s < 0 ∨ m1 < 0 ∨ m2 < 0
  · have hV2 : V = .tuple #[.agg #[.string ⟨#[]⟩, .string ⟨#[]⟩, .int .i64 0, .int .i64 0, .int .i64 0, .int .i64 0, .int .i64 0, .int .i64 0, .string ⟨#[]⟩, .string ⟨#[]⟩], .int .i64 90] := by rw [HV.out, finV, if_pos h]
    have HV2 := Lib.hid hV2
    clear hV2 HV
    rcases h with h | h | h
    · go_wp2
      exact ref_rets HS.out _ _ _ _ _ _ _ _ _ _ _ rfl rfl HV2.out
    · by_cases h0 : s < 0
      · go_wp2
        exact ref_rets HS.out _ _ _ _ _ _ _ _ _ _ _ rfl rfl HV2.out
      · go_wp2
        exact ref_rets HS.out _ _ _ _ _ _ _ _ _ _ _ rfl rfl HV2.out
    · by_cases h0 : s < 0
      · go_wp2
        exact ref_rets HS.out _ _ _ _ _ _ _ _ _ _ _ rfl rfl HV2.out
      · by_cases h1 : m1 < 0
        · go_wp2
          exact ref_rets HS.out _ _ _ _ _ _ _ _ _ _ _ rfl rfl HV2.out
        · go_wp2
          exact ref_rets HS.out _ _ _ _ _ _ _ _ _ _ _ rfl rfl HV2.out
  · have hV2 := HV.out
    rw [finV, if_neg h] at hV2
    have HV2 := Lib.hid hV2
    have h0 : ¬ s < 0 := by omega
    have h1 : ¬ m1 < 0 := by omega
    have h2 : ¬ m2 < 0 := by omega
    clear hV2 HV h
    go_wp2
    exact ref_rets HS.out _ _ _ _ _ _ _ _ _ _ _ rfl rfl HV2.out

set_option maxHeartbeats 8000000 in
set_option maxRecDepth 100000 in
theorem ref_t23 (w wc : World) (form typ : Int) (t0 t1 t2 t3 t4 : ByteArray) (n0 n1 n2 n3 n4 : Int) (path link user group : ByteArray) (m0 m1 m2 m3 : Int) (k md s : Int) (l : ByteArray) (u0 u1 u2 u3 u4 u6 u7 u8 u9 u11 u13 u15 u17 u19 u21 u22 u23 u24 u25 u26 u27 u28 u29 u30 u31 u32 u33 u34 u35 u36 u37 u38 u39 u40 u41 u42 u43 u44 u45 u46 u47 u48 u49 u50 u51 u52 u53 u54 u55 u56 u57 u58 u59 u60 u61 u62 u63 u64 u65 u66 u67 u68 u69 u70 u71 u72 u73 u74 u75 u76 u77 u78 u79 u80 u81 u82 u83 u84 u85 u86 u87 u88 u89 u90 u91 u92 u93 u94 u95 u96 u97 u98 u99 u100 u101 u102 u103 u104 u105 u106 u107 u108 u109 u110 u111 u112 u113 u114 u115 u116 u117 u118 u119 u120 u121 u122 u123 u124 u125 u126 u127 u128 u129 u130 u131 u132 u133 u134 u135 u136 u137 u138 u139 u140 u141 u142 u143 u144 u145 u146 u147 u148 u149 u150 u151 u152 u153 u154 u155 u156 u157 u158 u159 u160 u161 u162 u163 u164 u165 u166 u167 u168 u169 u170 u171 u172 u173 u174 u175 u176 u177 u178 u179 u180 u181 u182 u183 u184 u185 u186 u187 u188 u189 u190 u191 u192 u193 u194 u195 u196 u197 u198 u199 u200 u201 u202 u203 u204 u205 u206 u207 u208 : Value) (V : Value)
    (S : Aside0 (RM w w.heap.size (w.heap.size + 1) (w.heap.size + 1 + 1) (xCells form typ t0 t1 t2 t3 t4 n0 n1 n2 n3 n4) (eCells path link k md m1 m2 m3 s user group) wc)) (hV : V = finV md path user group m1 m2 m3 k s (if k = 1 ∨ k = 4 then ⟨#[]⟩ else link)) :
    Code.wp Tryd.prog (refRest 23) (bodyPost Tryd.prog Tryd.f7 (Gives V w)) ⟨(u0 :: u1 :: u2 :: u3 :: u4 :: (.pointer (some ⟨w.heap.size, 0, none⟩)) :: u6 :: u7 :: u8 :: u9 :: (.pointer (some ⟨w.heap.size + 1, 0, none⟩)) :: u11 :: (.pointer (some ⟨w.heap.size + 1 + 1, 0, none⟩)) :: u13 :: (.int .i64 m0) :: u15 :: (.int .i64 m1) :: u17 :: (.int .i64 m2) :: u19 :: (.int .i64 m3) :: u21 :: u22 :: u23 :: u24 :: u25 :: u26 :: u27 :: u28 :: u29 :: u30 :: u31 :: u32 :: u33 :: u34 :: u35 :: u36 :: u37 :: u38 :: u39 :: u40 :: u41 :: u42 :: u43 :: u44 :: u45 :: u46 :: u47 :: u48 :: u49 :: u50 :: u51 :: u52 :: u53 :: u54 :: u55 :: u56 :: u57 :: u58 :: u59 :: u60 :: u61 :: u62 :: u63 :: u64 :: u65 :: u66 :: u67 :: u68 :: u69 :: u70 :: u71 :: u72 :: u73 :: u74 :: u75 :: u76 :: u77 :: u78 :: u79 :: u80 :: u81 :: u82 :: u83 :: u84 :: u85 :: u86 :: u87 :: u88 :: u89 :: u90 :: u91 :: u92 :: u93 :: u94 :: u95 :: u96 :: u97 :: u98 :: u99 :: u100 :: u101 :: u102 :: u103 :: u104 :: u105 :: u106 :: u107 :: u108 :: u109 :: u110 :: u111 :: u112 :: u113 :: u114 :: u115 :: u116 :: u117 :: u118 :: u119 :: u120 :: u121 :: u122 :: u123 :: u124 :: u125 :: u126 :: u127 :: u128 :: u129 :: u130 :: u131 :: u132 :: u133 :: u134 :: u135 :: u136 :: u137 :: u138 :: u139 :: u140 :: u141 :: u142 :: u143 :: u144 :: u145 :: u146 :: u147 :: u148 :: u149 :: u150 :: u151 :: u152 :: u153 :: u154 :: u155 :: u156 :: u157 :: u158 :: u159 :: u160 :: u161 :: u162 :: u163 :: u164 :: u165 :: u166 :: u167 :: u168 :: u169 :: u170 :: u171 :: u172 :: u173 :: u174 :: u175 :: u176 :: u177 :: u178 :: u179 :: u180 :: u181 :: u182 :: u183 :: u184 :: u185 :: u186 :: u187 :: u188 :: u189 :: u190 :: u191 :: u192 :: u193 :: u194 :: u195 :: u196 :: u197 :: u198 :: u199 :: u200 :: u201 :: u202 :: u203 :: u204 :: u205 :: u206 :: u207 :: u208 :: []).toArray, []⟩ wc := by
  conv => arg 2; whnf
  have S' := S.out
  obtain ⟨c0, c1, c2, c3, c4, c5, c6, c7, c8, c9⟩ := S'.ents
  obtain ⟨f0, f1, f2, f3, f4, f5, f6, f7, f8, f9⟩ := S'.entsf
  have HS := Lib.hid S'
  have HV := Lib.hid hV
  clear S S' hV
  go_upto_region 39 with (fail)
  go_cut [194] (fun v194 wc => v194 = .bool (decide (k = 1 ∨ k = 4)) ∧ Aside0 (RM w w.heap.size (w.heap.size + 1) (w.heap.size + 1 + 1) (xCells form typ t0 t1 t2 t3 t4 n0 n1 n2 n3 n4) (eCells path link k md m1 m2 m3 s user group) wc))
  case first =>
    by_cases h1 : k = 1
    · have hb := beq_iff_eq.2 h1
      clear h1 HV
      go_wp2
      go_meet
      case rel => exact ⟨by simp at hb; simp [hb], ⟨HS.out⟩⟩
    · have hb := beq_eq_false_iff_ne.2 h1
      by_cases h4 : k = 4
      · have hb4 := beq_iff_eq.2 h4
        clear h1 h4 HV
        go_wp2
        go_meet
        case rel => exact ⟨by simp at hb4; simp [hb4], ⟨HS.out⟩⟩
      · have hb4 := beq_eq_false_iff_ne.2 h4
        clear h1 h4 HV
        go_wp2
        go_meet
        case rel => exact ⟨by simp at hb hb4; simp [hb, hb4], ⟨HS.out⟩⟩
  case rest =>
    obtain ⟨rfl, S1⟩ := hcut
    clear c0 c1 c2 c3 c4 c5 c6 c7 c8 c9 f0 f1 f2 f3 f4 f5 f6 f7 f8 f9 HS
    have c1 := S1.out.e.cell 1
    have f1 := S1.out.e.frozen 1
    simp at c1
    obtain ⟨q, hq⟩ : ∃ q : Bool, decide (k = 1 ∨ k = 4) = q := ⟨_, rfl⟩
    have HQ := Lib.hid hq
    rw [hq]
    clear hq
    go_upto_if 194 with (fail)
    go_cut [] (fun wc => Aside0 (RM w w.heap.size (w.heap.size + 1) (w.heap.size + 1 + 1) (xCells form typ t0 t1 t2 t3 t4 n0 n1 n2 n3 n4) (eCells path (if q = true then ⟨#[]⟩ else link) k md m1 m2 m3 s user group) wc))
    case first =>
      cases q with
      | true => (go_wp2; go_meet; (case rel => exact ⟨by simpa using S1.out.set (by omega) 1 (.string ⟨#[]⟩)⟩))
      | false => (go_wp2; go_meet; (case rel => exact S1))
    case rest =>
      clear S1 c1 f1
      go_step
      refine ref_t24 w _ form typ t0 t1 t2 t3 t4 n0 n1 n2 n3 n4 path link user group m0 m1 m2 m3 k md s (if q = true then ⟨#[]⟩ else link) _ _ _ _ _ _ _ _ _ _ _ _ _ _ _ _ _ _ _ _ _ _ _ _ _ _ _ _ _ _ _ _ _ _ _ _ _ _ _ _ _ _ _ _ _ _ _ _ _ _ _ _ _ _ _ _ _ _ _ _ _ _ _ _ _ _ _ _ _ _ _ _ _ _ _ _ _ _ _ _ _ _ _ _ _ _ _ _ _ _ _ _ _ _ _ _ _ _ _ _ _ _ _ _ _ _ _ _ _ _ _ _ _ _ _ _ _ _ _ _ _ _ _ _ _ _ _ _ _ _ _ _ _ _ _ _ _ _ _ _ _ _ _ _ _ _ _ _ _ _ _ _ _ _ _ _ _ _ _ _ _ _ _ _ _ _ _ _ _ _ _ _ _ _ _ _ _ _ _ _ _ _ _ _ _ _ _ _ _ _ _ _ _ _ _ _ _ _ _ _ _ _ V hcut ?_
      rw [HV.out, ← HQ.out]
      by_cases h : k = 1 ∨ k = 4
      · simp [h]
      · simp [h]

set_option maxHeartbeats 8000000 in
set_option maxRecDepth 100000 in
theorem ref_t18 (w wc : World) (form typ : Int) (t0 t1 t2 t3 t4 : ByteArray) (n0 n1 n2 n3 n4 : Int) (path link user group : ByteArray) (m0 m1 m2 m3 : Int) (k md s : Int) (l : ByteArray) (u0 u1 u2 u3 u4 u6 u7 u8 u9 u11 u13 u15 u17 u19 u21 u22 u23 u24 u25 u26 u27 u28 u29 u30 u31 u32 u33 u34 u35 u36 u37 u38 u39 u40 u41 u42 u43 u44 u45 u46 u47 u48 u49 u50 u51 u52 u53 u54 u55 u56 u57 u58 u59 u60 u61 u62 u63 u64 u65 u66 u67 u68 u69 u70 u71 u72 u73 u74 u75 u76 u77 u78 u79 u80 u81 u82 u83 u84 u85 u86 u87 u88 u89 u90 u91 u92 u93 u94 u95 u96 u97 u98 u99 u100 u101 u102 u103 u104 u105 u106 u107 u108 u109 u110 u111 u112 u113 u114 u115 u116 u117 u118 u119 u120 u121 u122 u123 u124 u125 u126 u127 u128 u129 u130 u131 u132 u133 u134 u135 u136 u137 u138 u139 u140 u141 u142 u143 u144 u145 u146 u147 u148 u149 u150 u151 u152 u153 u154 u155 u156 u157 u158 u159 u160 u161 u162 u163 u164 u165 u166 u167 u168 u169 u170 u171 u172 u173 u174 u175 u176 u177 u178 u179 u180 u181 u182 u183 u184 u185 u186 u187 u188 u189 u190 u191 u192 u193 u194 u195 u196 u197 u198 u199 u200 u201 u202 u203 u204 u205 u206 u207 u208 : Value) (V : Value)
    (S : Aside0 (RM w w.heap.size (w.heap.size + 1) (w.heap.size + 1 + 1) (xCells form typ t0 t1 t2 t3 t4 n0 n1 n2 n3 n4) (eCells path link k md 0 0 0 0 user group) wc)) (hV : V = finV md path user group m1 m2 m3 k (if k = 1 then m0 else 0) (if k = 1 ∨ k = 4 then ⟨#[]⟩ else link)) :
    Code.wp Tryd.prog (refRest 18) (bodyPost Tryd.prog Tryd.f7 (Gives V w)) ⟨(u0 :: u1 :: u2 :: u3 :: u4 :: (.pointer (some ⟨w.heap.size, 0, none⟩)) :: u6 :: u7 :: u8 :: u9 :: (.pointer (some ⟨w.heap.size + 1, 0, none⟩)) :: u11 :: (.pointer (some ⟨w.heap.size + 1 + 1, 0, none⟩)) :: u13 :: (.int .i64 m0) :: u15 :: (.int .i64 m1) :: u17 :: (.int .i64 m2) :: u19 :: (.int .i64 m3) :: u21 :: u22 :: u23 :: u24 :: u25 :: u26 :: u27 :: u28 :: u29 :: u30 :: u31 :: u32 :: u33 :: u34 :: u35 :: u36 :: u37 :: u38 :: u39 :: u40 :: u41 :: u42 :: u43 :: u44 :: u45 :: u46 :: u47 :: u48 :: u49 :: u50 :: u51 :: u52 :: u53 :: u54 :: u55 :: u56 :: u57 :: u58 :: u59 :: u60 :: u61 :: u62 :: u63 :: u64 :: u65 :: u66 :: u67 :: u68 :: u69 :: u70 :: u71 :: u72 :: u73 :: u74 :: u75 :: u76 :: u77 :: u78 :: u79 :: u80 :: u81 :: u82 :: u83 :: u84 :: u85 :: u86 :: u87 :: u88 :: u89 :: u90 :: u91 :: u92 :: u93 :: u94 :: u95 :: u96 :: u97 :: u98 :: u99 :: u100 :: u101 :: u102 :: u103 :: u104 :: u105 :: u106 :: u107 :: u108 :: u109 :: u110 :: u111 :: u112 :: u113 :: u114 :: u115 :: u116 :: u117 :: u118 :: u119 :: u120 :: u121 :: u122 :: u123 :: u124 :: u125 :: u126 :: u127 :: u128 :: u129 :: u130 :: u131 :: u132 :: u133 :: u134 :: u135 :: u136 :: u137 :: u138 :: u139 :: u140 :: u141 :: u142 :: u143 :: u144 :: u145 :: u146 :: u147 :: u148 :: u149 :: u150 :: u151 :: u152 :: u153 :: u154 :: u155 :: u156 :: u157 :: u158 :: u159 :: u160 :: u161 :: u162 :: u163 :: u164 :: u165 :: u166 :: u167 :: u168 :: u169 :: u170 :: u171 :: u172 :: u173 :: u174 :: u175 :: u176 :: u177 :: u178 :: u179 :: u180 :: u181 :: u182 :: u183 :: u184 :: u185 :: u186 :: u187 :: u188 :: u189 :: u190 :: u191 :: u192 :: u193 :: u194 :: u195 :: u196 :: u197 :: u198 :: u199 :: u200 :: u201 :: u202 :: u203 :: u204 :: u205 :: u206 :: u207 :: u208 :: []).toArray, []⟩ wc := by
  conv => arg 2; whnf
  have S' := S.out
  obtain ⟨c0, c1, c2, c3, c4, c5, c6, c7, c8, c9⟩ := S'.ents
  obtain ⟨f0, f1, f2, f3, f4, f5, f6, f7, f8, f9⟩ := S'.entsf
  have HS := Lib.hid S'
  have HV := Lib.hid hV
  clear S S' hV
  go_upto_region 37 with (fail)
  have S1 : Aside0 (RM w w.heap.size (w.heap.size + 1) (w.heap.size + 1 + 1) (xCells form typ t0 t1 t2 t3 t4 n0 n1 n2 n3 n4) (eCells path link k md m1 m2 m3 m0 user group) (World.setCell (World.setCell (World.setCell (World.setCell wc ⟨w.heap.size + 1 + 1, 7, none⟩ (.int .i64 m0)) ⟨w.heap.size + 1 + 1, 4, none⟩ (.int .i64 m1)) ⟨w.heap.size + 1 + 1, 5, none⟩ (.int .i64 m2)) ⟨w.heap.size + 1 + 1, 6, none⟩ (.int .i64 m3))) := ⟨by simpa using ((((HS.out.set (by omega) 7 (.int .i64 m0)).set (by omega) 4 (.int .i64 m1)).set (by omega) 5 (.int .i64 m2)).set (by omega) 6 (.int .i64 m3))⟩
  clear c0 c1 c2 c3 c4 c5 c6 c7 c8 c9 f0 f1 f2 f3 f4 f5 f6 f7 f8 f9 HS
  generalize World.setCell (World.setCell (World.setCell (World.setCell wc ⟨w.heap.size + 1 + 1, 7, none⟩ (.int .i64 m0)) ⟨w.heap.size + 1 + 1, 4, none⟩ (.int .i64 m1)) ⟨w.heap.size + 1 + 1, 5, none⟩ (.int .i64 m2)) ⟨w.heap.size + 1 + 1, 6, none⟩ (.int .i64 m3) = W2 at S1 ⊢
  have c2 := S1.out.e.cell 2
  have f7 := S1.out.e.frozen 7
  have c7 := S1.out.e.cell 7
  simp at c2 c7
  obtain ⟨q, hq⟩ : ∃ q : Bool, (k != 1) = q := ⟨_, rfl⟩
  have HQ := Lib.hid hq
  go_upto_if 185 with (fail)
  (try rw [hq])
  clear hq
  go_cut [] (fun wc => Aside0 (RM w w.heap.size (w.heap.size + 1) (w.heap.size + 1 + 1) (xCells form typ t0 t1 t2 t3 t4 n0 n1 n2 n3 n4) (eCells path link k md m1 m2 m3 (if q = true then 0 else m0) user group) wc))
  case first =>
    cases q with
    | true => (go_wp2; go_meet; (case rel => exact ⟨by simpa using S1.out.set (by omega) 7 (.int .i64 0)⟩))
    | false => (go_wp2; go_meet; (case rel => exact S1))
  case rest =>
    clear S1 c2 c7 f7
    go_step
    refine ref_t23 w _ form typ t0 t1 t2 t3 t4 n0 n1 n2 n3 n4 path link user group m0 m1 m2 m3 k md (if q = true then 0 else m0) l _ _ _ _ _ _ _ _ _ _ _ _ _ _ _ _ _ _ _ _ _ _ _ _ _ _ _ _ _ _ _ _ _ _ _ _ _ _ _ _ _ _ _ _ _ _ _ _ _ _ _ _ _ _ _ _ _ _ _ _ _ _ _ _ _ _ _ _ _ _ _ _ _ _ _ _ _ _ _ _ _ _ _ _ _ _ _ _ _ _ _ _ _ _ _ _ _ _ _ _ _ _ _ _ _ _ _ _ _ _ _ _ _ _ _ _ _ _ _ _ _ _ _ _ _ _ _ _ _ _ _ _ _ _ _ _ _ _ _ _ _ _ _ _ _ _ _ _ _ _ _ _ _ _ _ _ _ _ _ _ _ _ _ _ _ _ _ _ _ _ _ _ _ _ _ _ _ _ _ _ _ _ _ _ _ _ _ _ _ _ _ _ _ _ _ _ _ _ _ _ _ _ V hcut ?_
    rw [HV.out, ← HQ.out]
    by_cases h : k = 1
    · simp [h]
    · simp [h]

set_option maxHeartbeats 8000000 in
set_option maxRecDepth 100000 in
theorem ref_t16 (w wc : World) (form typ : Int) (t0 t1 t2 t3 t4 : ByteArray) (n0 n1 n2 n3 n4 : Int) (path link user group : ByteArray) (m0 m1 m2 m3 : Int) (k md s : Int) (l : ByteArray) (u0 u1 u2 u3 u4 u6 u7 u8 u9 u11 u13 u15 u17 u19 u21 u23 u24 u25 u26 u27 u28 u29 u30 u31 u32 u33 u34 u35 u36 u37 u38 u39 u40 u41 u42 u43 u44 u45 u46 u47 u48 u49 u50 u51 u52 u53 u54 u55 u56 u57 u58 u59 u60 u61 u62 u63 u64 u65 u66 u67 u68 u69 u70 u71 u72 u73 u74 u75 u76 u77 u78 u79 u80 u81 u82 u83 u84 u85 u86 u87 u88 u89 u90 u91 u92 u93 u94 u95 u96 u97 u98 u99 u100 u101 u102 u103 u104 u105 u106 u107 u108 u109 u110 u111 u112 u113 u114 u115 u116 u117 u118 u119 u120 u121 u122 u123 u124 u125 u126 u127 u128 u129 u130 u131 u132 u133 u134 u135 u136 u137 u138 u139 u140 u141 u142 u143 u144 u145 u146 u147 u148 u149 u150 u151 u152 u153 u154 u155 u156 u157 u158 u159 u160 u161 u162 u163 u164 u165 u166 u167 u168 u169 u170 u171 u172 u173 u174 u175 u176 u177 u178 u179 u180 u181 u182 u183 u184 u185 u186 u187 u188 u189 u190 u191 u192 u193 u194 u195 u196 u197 u198 u199 u200 u201 u202 u203 u204 u205 u206 u207 u208 : Value) (V : Value)
    (S : Aside0 (RM w w.heap.size (w.heap.size + 1) (w.heap.size + 1 + 1) (xCells form typ t0 t1 t2 t3 t4 n0 n1 n2 n3 n4) (eCells path link k 0 0 0 0 0 user group) wc)) (hpz : path.size ≤ 9223372036854775807) (hV : V = madeV k form md path link user group (some m0) (some m1) (some m2) (some m3)) :
    Code.wp Tryd.prog (refRest 16) (bodyPost Tryd.prog Tryd.f7 (Gives V w)) ⟨(u0 :: u1 :: u2 :: u3 :: u4 :: (.pointer (some ⟨w.heap.size, 0, none⟩)) :: u6 :: u7 :: u8 :: u9 :: (.pointer (some ⟨w.heap.size + 1, 0, none⟩)) :: u11 :: (.pointer (some ⟨w.heap.size + 1 + 1, 0, none⟩)) :: u13 :: (.int .i64 m0) :: u15 :: (.int .i64 m1) :: u17 :: (.int .i64 m2) :: u19 :: (.int .i64 m3) :: u21 :: (.int .i64 md) :: u23 :: u24 :: u25 :: u26 :: u27 :: u28 :: u29 :: u30 :: u31 :: u32 :: u33 :: u34 :: u35 :: u36 :: u37 :: u38 :: u39 :: u40 :: u41 :: u42 :: u43 :: u44 :: u45 :: u46 :: u47 :: u48 :: u49 :: u50 :: u51 :: u52 :: u53 :: u54 :: u55 :: u56 :: u57 :: u58 :: u59 :: u60 :: u61 :: u62 :: u63 :: u64 :: u65 :: u66 :: u67 :: u68 :: u69 :: u70 :: u71 :: u72 :: u73 :: u74 :: u75 :: u76 :: u77 :: u78 :: u79 :: u80 :: u81 :: u82 :: u83 :: u84 :: u85 :: u86 :: u87 :: u88 :: u89 :: u90 :: u91 :: u92 :: u93 :: u94 :: u95 :: u96 :: u97 :: u98 :: u99 :: u100 :: u101 :: u102 :: u103 :: u104 :: u105 :: u106 :: u107 :: u108 :: u109 :: u110 :: u111 :: u112 :: u113 :: u114 :: u115 :: u116 :: u117 :: u118 :: u119 :: u120 :: u121 :: u122 :: u123 :: u124 :: u125 :: u126 :: u127 :: u128 :: u129 :: u130 :: u131 :: u132 :: u133 :: u134 :: u135 :: u136 :: u137 :: u138 :: u139 :: u140 :: u141 :: u142 :: u143 :: u144 :: u145 :: u146 :: u147 :: u148 :: u149 :: u150 :: u151 :: u152 :: u153 :: u154 :: u155 :: u156 :: u157 :: u158 :: u159 :: u160 :: u161 :: u162 :: u163 :: u164 :: u165 :: u166 :: u167 :: u168 :: u169 :: u170 :: u171 :: u172 :: u173 :: u174 :: u175 :: u176 :: u177 :: u178 :: u179 :: u180 :: u181 :: u182 :: u183 :: u184 :: u185 :: u186 :: u187 :: u188 :: u189 :: u190 :: u191 :: u192 :: u193 :: u194 :: u195 :: u196 :: u197 :: u198 :: u199 :: u200 :: u201 :: u202 :: u203 :: u204 :: u205 :: u206 :: u207 :: u208 :: []).toArray, []⟩ wc := by
  conv => arg 2; whnf
  have S' := S.out
  obtain ⟨c0, c1, c2, c3, c4, c5, c6, c7, c8, c9⟩ := S'.ents
  obtain ⟨f0, f1, f2, f3, f4, f5, f6, f7, f8, f9⟩ := S'.entsf
  have HS := Lib.hid S'
  have HV := Lib.hid hV
  clear S S' hV
  go_upto_region 31 with (fail)
  have S1 : Aside0 (RM w w.heap.size (w.heap.size + 1) (w.heap.size + 1 + 1) (xCells form typ t0 t1 t2 t3 t4 n0 n1 n2 n3 n4) (eCells path link k md 0 0 0 0 user group) (World.setCell wc ⟨w.heap.size + 1 + 1, 3, none⟩ (.int .i64 md))) := ⟨by simpa using (HS.out.set (by omega) 3 (.int .i64 md))⟩
  clear c0 c1 c2 c3 c4 c5 c6 c7 c8 c9 f0 f1 f2 f3 f4 f5 f6 f7 f8 f9 HS
  generalize World.setCell wc ⟨w.heap.size + 1 + 1, 3, none⟩ (.int .i64 md) = W2 at S1 ⊢
  have c0 := S1.out.e.cell 0
  have c2 := S1.out.e.cell 2
  have x0 := S1.out.x.cell 0
  have f2 := S1.out.e.frozen 2
  simp at c0 c2 x0
  go_cut [173] (fun v173 wc => v173 = .bool (decide (k = 1 ∧ form = 0 ∧ Lib.hasSuffix path.data.toList [47] = true)) ∧ Aside0 (RM w w.heap.size (w.heap.size + 1) (w.heap.size + 1 + 1) (xCells form typ t0 t1 t2 t3 t4 n0 n1 n2 n3 n4) (eCells path link k md 0 0 0 0 user group) wc))
  case first =>
    by_cases h1 : k = 1
    · have hb := beq_iff_eq.2 h1
      by_cases h2 : form = 0
      · have hb2 := beq_iff_eq.2 h2
        by_cases h3 : path = ⟨#[]⟩
        · have hb3 : path.toList.isEmpty = true := str_empty.2 h3
          have hb4 : (!path.toList.isEmpty) = false := by rw [hb3]; rfl
          have hr : decide (k = 1 ∧ form = 0 ∧ Lib.hasSuffix path.data.toList [47] = true) = false := by rw [h3]; simp; intros; decide
          have HR0 := Lib.hid hr
          clear h1 h2 h3 HV hr
          go_wp2
          go_meet
          case rel => exact ⟨by rw [HR0.out], S1⟩
        · obtain ⟨c, hc0, hc1, hrun, hsuf⟩ := last_of h3
          have hrun' := fun wx => hrun Tryd.prog wx 9 Tryd.underlying9
          have hb3 : path.toList.isEmpty = false := str_nonempty.2 h3
          have hb4 : (!path.toList.isEmpty) = true := by rw [hb3]; rfl
          have hr : decide (k = 1 ∧ form = 0 ∧ Lib.hasSuffix path.data.toList [47] = true) = (c == 47) := by rw [hsuf]; generalize (c == 47) = qq; subst h1 h2; cases qq <;> simp
          have HR0 := Lib.hid hr
          have hps := size_pos h3
          clear h1 h2 h3 HV hr hsuf hrun
          go_wp2
          go_meet
          case rel => exact ⟨by rw [HR0.out], S1⟩
      · have hb2 := beq_eq_false_iff_ne.2 h2
        have hr : decide (k = 1 ∧ form = 0 ∧ Lib.hasSuffix path.data.toList [47] = true) = false := by simp [h2]
        have HR0 := Lib.hid hr
        clear h1 h2 HV hr
        go_wp2
        go_meet
        case rel => exact ⟨by rw [HR0.out], S1⟩
    · have hb := beq_eq_false_iff_ne.2 h1
      have hr : decide (k = 1 ∧ form = 0 ∧ Lib.hasSuffix path.data.toList [47] = true) = false := by simp [h1]
      have HR0 := Lib.hid hr
      clear h1 HV hr
      go_wp2
      go_meet
      case rel => exact ⟨by rw [HR0.out], S1⟩
  case rest =>
    clear S1 c0 c2 x0 f2
    obtain ⟨rfl, S1⟩ := hcut
    have c2 := S1.out.e.cell 2
    have f2 := S1.out.e.frozen 2
    simp at c2
    obtain ⟨q, hq⟩ : ∃ q : Bool, decide (k = 1 ∧ form = 0 ∧ Lib.hasSuffix path.data.toList [47] = true) = q := ⟨_, rfl⟩
    have HQ := Lib.hid hq
    rw [hq]
    clear hq
    go_upto_if 173 with (fail)
    go_cut [] (fun wc => Aside0 (RM w w.heap.size (w.heap.size + 1) (w.heap.size + 1 + 1) (xCells form typ t0 t1 t2 t3 t4 n0 n1 n2 n3 n4) (eCells path link (if q = true then 4 else k) md 0 0 0 0 user group) wc))
    case first =>
      cases q with
      | true => (go_wp2; go_meet; (case rel => exact ⟨by simpa using S1.out.set (by omega) 2 (.int .i64 4)⟩))
      | false => (go_wp2; go_meet; (case rel => exact S1))
    case rest =>
      clear S1 c2 f2
      go_step
      refine ref_t18 w _ form typ t0 t1 t2 t3 t4 n0 n1 n2 n3 n4 path link user group m0 m1 m2 m3 (if q = true then 4 else k) md s l _ _ _ _ _ _ _ _ _ _ _ _ _ _ _ _ _ _ _ _ _ _ _ _ _ _ _ _ _ _ _ _ _ _ _ _ _ _ _ _ _ _ _ _ _ _ _ _ _ _ _ _ _ _ _ _ _ _ _ _ _ _ _ _ _ _ _ _ _ _ _ _ _ _ _ _ _ _ _ _ _ _ _ _ _ _ _ _ _ _ _ _ _ _ _ _ _ _ _ _ _ _ _ _ _ _ _ _ _ _ _ _ _ _ _ _ _ _ _ _ _ _ _ _ _ _ _ _ _ _ _ _ _ _ _ _ _ _ _ _ _ _ _ _ _ _ _ _ _ _ _ _ _ _ _ _ _ _ _ _ _ _ _ _ _ _ _ _ _ _ _ _ _ _ _ _ _ _ _ _ _ _ _ _ _ _ _ _ _ _ _ _ _ _ _ _ _ _ _ _ _ _ V hcut ?_
      rw [HV.out, ← HQ.out, madeV]
      by_cases h1 : k = 1
      · by_cases h2 : form = 0 ∧ Lib.hasSuffix path.data.toList [47] = true
        · simp [h1, h2]
        · simp [h1, h2]
      · by_cases h4 : k = 4
        · simp [h1, h4]
        · simp [h1, h4]

set_option maxHeartbeats 8000000 in
set_option maxRecDepth 100000 in
theorem ref_t14 (w wc : World) (form typ : Int) (t0 t1 t2 t3 t4 : ByteArray) (n0 n1 n2 n3 n4 : Int) (path link user group : ByteArray) (m0 m1 m2 m3 : Int) (k md s : Int) (l : ByteArray) (u0 u1 u2 u3 u4 u6 u7 u8 u9 u11 u13 u15 u17 u19 u21 u22 u23 u24 u25 u26 u27 u28 u29 u30 u31 u32 u33 u34 u35 u36 u37 u38 u39 u40 u41 u42 u43 u44 u45 u46 u47 u48 u49 u50 u51 u52 u53 u54 u55 u56 u57 u58 u59 u60 u61 u62 u63 u64 u65 u66 u67 u68 u69 u70 u71 u72 u73 u74 u75 u76 u77 u78 u79 u80 u81 u82 u83 u84 u85 u86 u87 u88 u89 u90 u91 u92 u93 u94 u95 u96 u97 u98 u99 u100 u101 u102 u103 u104 u105 u106 u107 u108 u109 u110 u111 u112 u113 u114 u115 u116 u117 u118 u119 u120 u121 u122 u123 u124 u125 u126 u127 u128 u129 u130 u131 u132 u133 u134 u135 u136 u137 u138 u139 u140 u141 u142 u143 u144 u145 u146 u147 u148 u149 u150 u151 u152 u153 u154 u155 u156 u157 u158 u159 u160 u161 u162 u163 u164 u165 u166 u167 u168 u169 u170 u171 u172 u173 u174 u175 u176 u177 u178 u179 u180 u181 u182 u183 u184 u185 u186 u187 u188 u189 u190 u191 u192 u193 u194 u195 u196 u197 u198 u199 u200 u201 u202 u203 u204 u205 u206 u207 u208 : Value) (V : Value)
    (S : Aside0 (RM w w.heap.size (w.heap.size + 1) (w.heap.size + 1 + 1) (xCells form typ t0 t1 t2 t3 t4 n0 n1 n2 n3 n4) (eCells path link k 0 0 0 0 0 user group) wc)) (hpz : path.size ≤ 9223372036854775807) (hV : V = madeV k form (n0 % 4096) path link user group (some m0) (some m1) (some m2) (some m3)) :
    Code.wp Tryd.prog (refRest 14) (bodyPost Tryd.prog Tryd.f7 (Gives V w)) ⟨(u0 :: u1 :: u2 :: u3 :: u4 :: (.pointer (some ⟨w.heap.size, 0, none⟩)) :: u6 :: u7 :: u8 :: u9 :: (.pointer (some ⟨w.heap.size + 1, 0, none⟩)) :: u11 :: (.pointer (some ⟨w.heap.size + 1 + 1, 0, none⟩)) :: u13 :: (.int .i64 m0) :: u15 :: (.int .i64 m1) :: u17 :: (.int .i64 m2) :: u19 :: (.int .i64 m3) :: u21 :: u22 :: u23 :: u24 :: u25 :: u26 :: u27 :: u28 :: u29 :: u30 :: u31 :: u32 :: u33 :: u34 :: u35 :: u36 :: u37 :: u38 :: u39 :: u40 :: u41 :: u42 :: u43 :: u44 :: u45 :: u46 :: u47 :: u48 :: u49 :: u50 :: u51 :: u52 :: u53 :: u54 :: u55 :: u56 :: u57 :: u58 :: u59 :: u60 :: u61 :: u62 :: u63 :: u64 :: u65 :: u66 :: u67 :: u68 :: u69 :: u70 :: u71 :: u72 :: u73 :: u74 :: u75 :: u76 :: u77 :: u78 :: u79 :: u80 :: u81 :: u82 :: u83 :: u84 :: u85 :: u86 :: u87 :: u88 :: u89 :: u90 :: u91 :: u92 :: u93 :: u94 :: u95 :: u96 :: u97 :: u98 :: u99 :: u100 :: u101 :: u102 :: u103 :: u104 :: u105 :: u106 :: u107 :: u108 :: u109 :: u110 :: u111 :: u112 :: u113 :: u114 :: u115 :: u116 :: u117 :: u118 :: u119 :: u120 :: u121 :: u122 :: u123 :: u124 :: u125 :: u126 :: u127 :: u128 :: u129 :: u130 :: u131 :: u132 :: u133 :: u134 :: u135 :: u136 :: u137 :: u138 :: u139 :: u140 :: u141 :: u142 :: u143 :: u144 :: u145 :: u146 :: u147 :: u148 :: u149 :: u150 :: u151 :: u152 :: u153 :: u154 :: u155 :: u156 :: u157 :: u158 :: u159 :: u160 :: u161 :: u162 :: u163 :: u164 :: u165 :: u166 :: u167 :: u168 :: u169 :: u170 :: u171 :: u172 :: u173 :: u174 :: u175 :: u176 :: u177 :: u178 :: u179 :: u180 :: u181 :: u182 :: u183 :: u184 :: u185 :: u186 :: u187 :: u188 :: u189 :: u190 :: u191 :: u192 :: u193 :: u194 :: u195 :: u196 :: u197 :: u198 :: u199 :: u200 :: u201 :: u202 :: u203 :: u204 :: u205 :: u206 :: u207 :: u208 :: []).toArray, []⟩ wc := by
  conv => arg 2; whnf
  have S' := S.out
  obtain ⟨x0, x7⟩ := S'.args
  have HS := Lib.hid S'
  have HV := Lib.hid hV
  have ha : -4096 < Int.tmod n0 4096 := by have := Int.lt_tmod_of_pos n0 (b := 4096) (by decide); omega
  have hb : Int.tmod n0 4096 < 4096 := Int.tmod_lt_of_pos _ (by decide)
  clear S S' hV x0
  go_upto_if 146 with (fail)
  go_cut [22] (fun v22 wc => v22 = .int .i64 (n0 % 4096) ∧ Aside0 (RM w w.heap.size (w.heap.size + 1) (w.heap.size + 1 + 1) (xCells form typ t0 t1 t2 t3 t4 n0 n1 n2 n3 n4) (eCells path link k 0 0 0 0 0 user group) wc))
  case first =>
    by_cases h : Int.tmod n0 4096 < 0
    · have e : n0 % 4096 = Int.tmod n0 4096 + 4096 := by
        have h1 := Int.emod_add_mul_ediv n0 4096; have h2 := Int.tmod_add_mul_tdiv n0 4096; omega
      have HEE := Lib.hid e
      clear e
      go_wp2
      go_meet
      case rel => exact ⟨by rw [HEE.out], ⟨HS.out⟩⟩
    · have e : n0 % 4096 = Int.tmod n0 4096 := by
        have h1 := Int.emod_add_mul_ediv n0 4096; have h2 := Int.tmod_add_mul_tdiv n0 4096; omega
      have HEE := Lib.hid e
      clear e
      go_wp2
      go_meet
      case rel => exact ⟨by rw [HEE.out], ⟨HS.out⟩⟩
  case rest =>
    obtain ⟨rfl, S1⟩ := hcut
    clear x7 ha hb HS
    go_step
    refine ref_t16 w _ form typ t0 t1 t2 t3 t4 n0 n1 n2 n3 n4 path link user group m0 m1 m2 m3 k (n0 % 4096) s l _ _ _ _ _ _ _ _ _ _ _ _ _ _ _ _ _ _ _ _ _ _ _ _ _ _ _ _ _ _ _ _ _ _ _ _ _ _ _ _ _ _ _ _ _ _ _ _ _ _ _ _ _ _ _ _ _ _ _ _ _ _ _ _ _ _ _ _ _ _ _ _ _ _ _ _ _ _ _ _ _ _ _ _ _ _ _ _ _ _ _ _ _ _ _ _ _ _ _ _ _ _ _ _ _ _ _ _ _ _ _ _ _ _ _ _ _ _ _ _ _ _ _ _ _ _ _ _ _ _ _ _ _ _ _ _ _ _ _ _ _ _ _ _ _ _ _ _ _ _ _ _ _ _ _ _ _ _ _ _ _ _ _ _ _ _ _ _ _ _ _ _ _ _ _ _ _ _ _ _ _ _ _ _ _ _ _ _ _ _ _ _ _ _ _ _ _ _ _ _ _ V S1 hpz HV.out

end Go.Proofs.YthmleoceakonjaaDoor
