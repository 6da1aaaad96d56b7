/-
  The law AskPaths returns true at every input; each argument reads behind the call as it read before: the statement's card.
-/
import Derived.Test.YtbkhhmgpfjemcaaDoorLaidA
import Derived.Test.YtbkhhmgpfjemcaaDoorAskNumLaw
import Derived.Test.YtbkhhmgpfjemcaaDoorPAskQx1
namespace Go.Proofs.YtbkhhmgpfjemcaaDoor
set_option linter.unusedVariables false
set_option linter.unusedSimpArgs false
open Go.RowKit Go.Proofs.YtbkhhmgpfjemcaaDoorW.PrintWords Go.Proofs.YtbkhhmgpfjemcaaDoorW.PrintLast Go.Proofs.YtbkhhmgpfjemcaaDoorW.PrintMore

abbrev pathWords : List ByteArray := [(⟨#[108, 105, 115, 116]⟩ : ByteArray), (⟨#[115, 116, 97, 116]⟩ : ByteArray), (⟨#[100, 101, 108, 101, 116, 101]⟩ : ByteArray), (⟨#[103, 101, 116]⟩ : ByteArray)]
abbrev pathForm (m : Nat) : Form := PAsk.rd_T47 forms ((4 + m : Nat) : Int)
theorem path_form : ∀ m : Fin 4, pathForm m.val ∈ forms ∧ (pathForm m.val).f1 = ((5 + m.val : Nat) : Int) ∧ (pathForm m.val).f2 = true ∧ (pathForm m.val).f3 = false ∧ (pathForm m.val).f4 = false ∧ (pathForm m.val).f6 = true ∧ rdOf ByteArray.empty pathWords ((m.val : Nat) : Int) = ⟨(wordOf (pathForm m.val)).toArray⟩ ∧ (wordOf (pathForm m.val)).length ≤ 6 := by decide +kernel
theorem path_dec {f : Form} (hf : f ∈ forms) (h2 : f.f2 = true) (h3 : f.f3 = false) (h4 : f.f4 = false) (h6 : f.f6 = true) (hw : (wordOf f).length ≤ 6) (u : Nat) (hu : u ≤ 1048576) (p : List UInt8) (hp : p.length ≤ 5000) :
    decL (wordOf f ++ [32] ++ Lib.itoa (u : Int) ++ [32] ++ p) = (f.f1, (u : Int), 0, 0, p, [], 0) := by
  have hl := Lib.itoa_length_le (u : Int) (by omega) (by omega)
  have e : wordOf f ++ [32] ++ Lib.itoa (u : Int) ++ [32] ++ p = wordOf f ++ (fld true u ++ 32 :: p) := by simp [fld]
  have hs : Suf (32 :: p) := .inr ⟨p, rfl⟩
  rw [e, dec_suf hf (suf_fld true u hs) (by simp only [fld, if_true, List.length_append, List.length_cons]; omega), h2, h3, h4, h6]
  have hst := step_fld (b := true) (u := u) (by omega) (by simp) hs
  rw [if_neg (by omega), if_neg (by omega)] at hst
  unfold readL
  rw [hst]
  simp [stepL]
theorem paths_law (t : Int) (p : ByteArray) (which : Int) : ∃ k, PAskQ.pannierlaw20_AskPaths.f k t p which = some true := by
  refine ⟨100, ?_⟩
  obtain ⟨l, rfl⟩ : ∃ l : List UInt8, p = ⟨l.toArray⟩ := ⟨p.data.toList, by simp⟩
  have hj : PAskQ.pannierlaw20_AskPaths.j0 100 t ⟨l.toArray⟩ which true = some true := by
    rw [show (100 : Nat) = 99 + 1 from rfl, PAskQ.pannierlaw20_AskPaths.j0, if_pos rfl]
  unfold PAskQ.pannierlaw20_AskPaths.f
  have ha : PAskQ.pannierlaw20_asks.f = some true := asks_true
  rw [ha]
  simp only [Option.bind_some, if_true]
  by_cases a0 : t < 0
  · rw [if_pos a0, hj]
  rw [if_neg a0]
  by_cases a1 : t > 1048576
  · rw [if_pos a1, hj]
  rw [if_neg a1]
  by_cases a2 : (((⟨l.toArray⟩ : ByteArray).size : Nat) : Int) > 5000
  · rw [if_pos a2, hj]
  rw [if_neg a2]
  by_cases a3 : which < 0
  · rw [if_pos a3, hj]
  rw [if_neg a3]
  by_cases a4 : which > 3
  · rw [decide_eq_true a4, hj]
  rw [decide_eq_false a4]
  rw [size_mk] at a2
  obtain ⟨u, rfl⟩ : ∃ u : Nat, t = u := ⟨t.toNat, by omega⟩
  obtain ⟨m, rfl⟩ : ∃ m : Nat, which = m := ⟨which.toNat, by omega⟩
  obtain ⟨hf, h1, h2, h3, h4, h6, hw, hlen⟩ := path_form ⟨m, by omega⟩
  simp only at hf h1 h2 h3 h4 h6 hw hlen
  have hl := Lib.itoa_length_le (u : Int) (by omega) (by omega)
  have hd : PAskQ.pannierlaw20_digits.f (u : Int) = some ⟨(Lib.itoa (u : Int)).toArray⟩ := digits_eq 99 u (by omega) (by omega) (by omega)
  have e32 : (⟨#[32]⟩ : ByteArray) = ⟨[32].toArray⟩ := rfl
  rw [show (100 : Nat) = 99 + 1 from rfl, PAskQ.pannierlaw20_AskPaths.j0, if_neg (by decide), if_pos (by omega), if_pos (by omega), hw, e32, hd]
  rw [if_pos (by rw [size_mk]; omega)]
  simp only [Option.bind_some, mk_append]
  rw [if_pos (by rw [size_mk, size_mk]; simp only [List.length_append, List.length_cons, List.length_nil]; omega), if_pos (by rw [size_mk]; simp only [List.length_append, List.length_cons, List.length_nil]; omega), if_pos (by rw [size_mk, size_mk]; simp only [List.length_append, List.length_cons, List.length_nil]; omega)]
  have hD : PAskQ.ask_Decode.f ⟨(wordOf (pathForm m) ++ [32] ++ Lib.itoa (u : Int) ++ [32] ++ l).toArray⟩ = some (ofL (decL (wordOf (pathForm m) ++ [32] ++ Lib.itoa (u : Int) ++ [32] ++ l))) := dec_eq _ 100 (by omega) (by simp only [List.length_append, List.length_cons, List.length_nil]; omega)
  rw [hD, path_dec hf h2 h3 h4 h6 hlen u (by omega) l (by omega)]
  have e5 : wrap64 (5 + (m : Int)) = ((5 + m : Nat) : Int) := by rw [wrap_ok (by omega) (by omega)]; omega
  simp only [ofL, Option.bind_some, if_true, h1, e5]
  simp
end Go.Proofs.YtbkhhmgpfjemcaaDoor
namespace Go.Proofs.YtbkhhmgpfjemcaaDoor.askPaths
open Go.ChangeShapes Go.WideShapes Go.ChangeAt Go.RowKit
open Go.ChangeMaps (open_string)

set_option maxRecDepth 100000 in
theorem contract (H : Type) (enc : TypeId × Value → H) (W : World) (base : Nat) (args : Array Value) (ds gs : List (DataW H)) (before : List MemPlace)
    (hval : ∀ (j : Nat) t v, Tryd.f6.params[j]? = some t → args[j]? = some v → Value.okWide Tryd.prog W .any base t v)
    (hW : DataW.Whole enc Tryd.prog Tryd.f6.params.toList Rows.askPathsSpec.vars false W args.toList ds gs before)
    (_hcond : ∀ k, (OpenSpec.ofChange Rows.askPathsSpec).cond = some k → k H (ds ++ gs) = true)
    (_hsz : (DataW.weightsEach Tryd.prog (Tryd.f6.params.toList ++ (OpenSpec.ofChange Rows.askPathsSpec).bare.plain.varTypes Tryd.prog) (ds ++ gs)).all (· ≤ reachBytes) = true)
    (hL : laidMetH Tryd.prog Rows.askPathsRow.laid W) (hsh : W.ShapedOpen Tryd.prog) :
    Calls Tryd.prog 6 args W fun e W' => ∃ v, e = .returned v ∧ Rows.askPathsSpec.post enc Tryd.prog Tryd.f6 false true false false W args v W' := by
  have hW' := hW
  obtain ⟨p, q, hA0, hV, rfl, hfz, hnd⟩ := hW
  have hA : DataW.TrodAll enc Tryd.prog W 0 (fun _ => true) true Tryd.f6.params.toList args.toList ds p := hA0
  rw [Tryd.params6] at hA hval
  obtain ⟨v0, vs0, d0, ds0, p0, q0, hargs, rfl, rfl, h0, r0⟩ := trodAll_cons hA
  obtain ⟨v1, vs1, d1, ds1, p1, q1, rfl, rfl, rfl, h1, r1⟩ := trodAll_cons r0
  obtain ⟨v2, vs2, d2, ds2, p2, q2, rfl, rfl, rfl, h2, r2⟩ := trodAll_cons r1
  obtain ⟨rfl, rfl, rfl⟩ := trodAll_nil r2
  obtain rfl : args = #[v0, v1, v2] := by cases args; simp_all
  obtain ⟨rfl, rfl⟩ := trodVars_none hV
  obtain ⟨x0, rfl, rfl, rfl, wf0⟩ := open_int Tryd.underlying3 (hval 0 3 v0 rfl rfl) h0
  obtain ⟨x1, rfl, rfl, rfl, ws1⟩ := open_string Tryd.underlying9 (hval 1 9 v1 rfl rfl) h1
  obtain ⟨x2, rfl, rfl, rfl, wf2⟩ := open_int Tryd.underlying3 (hval 2 3 v2 rfl rfl) h2
  refine (PAskQ.pannierlaw20_AskPaths.calls _ x0 x1 x2 true W (envE_of hL hsh) (paths_law x0 x1 x2).choose_spec).mono fun e W' ⟨he, hi⟩ => ?_
  subst he
  exact ⟨_, rfl, post_law (tb := 4) laidOut hW' rfl (by kernel_rfl) Tryd.underlying4 (by kernel_rfl) (by kernel_rfl) (hi)⟩

theorem reads (os : Os) {H : Type} (enc : TypeId × Value → H) : ∃ places, DataW.whole enc Tryd.prog ((laidWorld os).forCall (fun _ _ => 0) ⟨#[], #[.int .i64 0, .string ⟨#[]⟩, .int .i64 0], []⟩).memory Tryd.f6.params.toList Rows.askPathsSpec.vars false (#[.int .i64 0, .string ⟨#[]⟩, .int .i64 0] : Array Value).toList 12 = some ([.lit (.int .i64 0), .lit (.string []), .lit (.int .i64 0)], [], places) :=
  ⟨[], by kernel_rfl⟩

set_option maxRecDepth 100000 in
theorem lifted (os : Os) (started : os.Started) (H : Type) (enc : TypeId × Value → H) (F : Stop.Interp) :
    ReturnsInHanded {} Tryd.checked os 6 .any ((OpenSpec.ofChange Rows.askPathsSpec).preRow enc Tryd.prog Tryd.f6 Rows.askPathsRow.domain false Rows.askPathsRow.laid) (((OpenSpec.ofChange Rows.askPathsSpec).at F).post enc Tryd.prog Tryd.f6 false true false false) := by
  obtain ⟨places, hx⟩ := reads os enc
  refine returnsInHanded_of_row (C := Tryd.checked) (s := OpenSpec.ofChange Rows.askPathsSpec) own started (by kernel_rfl) Tryd.func6
    (witness_row_atRef (enc := enc) (C := Tryd.checked) false (laidWorld os) #[.int .i64 0, .string ⟨#[]⟩, .int .i64 0] rfl (by kernel_rfl) (by kernel_rfl) (by kernel_rfl)
      (OpenSpec.preRow_of_cond 12 hx (by kernel_rfl) (fun k hk => by cases hk) (by kernel_rfl) (laid_met os _))) ?_
  intro W base args ds gs before hval hW _ hcond hsz hL hsh _
  exact contract H enc W base args ds gs before hval hW hcond hsz hL hsh

theorem said : Rows.AskPathsSaid :=
  OpenClaim.holds_of_cond 6 Tryd.f6 rfl rfl rfl rfl rfl rfl rfl ⟨rfl, rfl, rfl, rfl, rfl⟩ rfl rfl rfl rfl rfl (by kernel_rfl) Tryd.func6 (by kernel_rfl)
    (of_decide_eq_true (by kernel_rfl)) (by unfold Func.isWrapper; first | (rw [if_pos (by decide +kernel)]; kernel_rfl) | (rw [if_neg (by decide +kernel)]; exact ⟨rfl, rfl⟩))
    (fun os started H enc _ F => by rw [OpenClaim.pre_eq_preRow]; exact lifted os started H enc F)

theorem plain (f : FuncId) (fn : Func) (hf : Tryd.pinned.checked.prog.funcNamed "pannier/pannierlaw20.AskPaths" = some f) (hfn : Tryd.pinned.checked.prog.funcs[f]? = some fn) :
    true = Tryd.pinned.checked.prog.looks [] ∧ ∀ (j : Nat) t, fn.params[j]? = some t → Tryd.pinned.checked.prog.wantsStandIn t = false := by
  obtain rfl : f = 6 := Option.some.inj ((show Tryd.prog.funcNamed "pannier/pannierlaw20.AskPaths" = some 6 by kernel_rfl).symm.trans hf) |>.symm
  obtain rfl : fn = Tryd.f6 := (Option.some.inj (Tryd.func6.symm.trans hfn)).symm
  refine ⟨by kernel_rfl, fun j t ht => ?_⟩
  have hall : Tryd.f6.params.toList.all (fun t => !Tryd.prog.wantsStandIn t) = true := by kernel_rfl
  have := List.all_eq_true.1 hall t (Array.mem_toList_iff.2 (Array.mem_of_getElem? ht))
  have h2 : Tryd.prog.wantsStandIn t = false := by simpa using this
  exact h2

theorem card : Rows.AskPathsCardSaid :=
  Claim7.holds_tied_plain_at .later [] _ _ _ _ said (fun _ h => by cases h) (by kernel_rfl) (fun _ h => by cases h) askPaths_row_tie rfl ⟨rfl, rfl⟩ (by kernel_rfl) rfl plain (by kernel_rfl)
#print axioms card
end Go.Proofs.YtbkhhmgpfjemcaaDoor.askPaths
