/-
  The law AskData returns true at every input; each argument reads behind the call as it read before: the statement's card.
-/
import Derived.Test.YtbkhhmgpfjemcaaDoorLaidA
import Derived.Test.YtbkhhmgpfjemcaaDoorAskDataLaw
namespace Go.Proofs.YtbkhhmgpfjemcaaDoor.askData
open Go.ChangeShapes Go.WideShapes Go.ChangeAt Go.RowKit

theorem cells5 : Tryd.prog.cellsOf 5 = 1 := by kernel_rfl
set_option maxRecDepth 100000 in
theorem contract (H : Type) (enc : TypeId × Value → H) (W : World) (base : Nat) (args : Array Value) (ds gs : List (DataW H)) (before : List MemPlace)
    (hval : ∀ (j : Nat) t v, Tryd.f7.params[j]? = some t → args[j]? = some v → Value.okWide Tryd.prog W .any base t v)
    (hW : DataW.Whole enc Tryd.prog Tryd.f7.params.toList Rows.askDataSpec.vars false W args.toList ds gs before)
    (_hcond : ∀ k, (OpenSpec.ofChange Rows.askDataSpec).cond = some k → k H (ds ++ gs) = true)
    (_hsz : (DataW.weightsEach Tryd.prog (Tryd.f7.params.toList ++ (OpenSpec.ofChange Rows.askDataSpec).bare.plain.varTypes Tryd.prog) (ds ++ gs)).all (· ≤ reachBytes) = true)
    (hL : laidMetH Tryd.prog Rows.askDataRow.laid W) (hsh : W.ShapedOpen Tryd.prog) :
    Calls Tryd.prog 7 args W fun e W' => ∃ v, e = .returned v ∧ Rows.askDataSpec.post enc Tryd.prog Tryd.f7 false true false false W args v W' := by
  have hW' := hW
  obtain ⟨p, q, hA0, hV, rfl, hfz, hnd⟩ := hW
  have hA : DataW.TrodAll enc Tryd.prog W 0 (fun _ => true) true Tryd.f7.params.toList args.toList ds p := hA0
  rw [Tryd.params7] at hA hval
  obtain ⟨v0, vs0, d0, ds0, p0, q0, hargs, rfl, rfl, h0, r0⟩ := trodAll_cons hA
  obtain ⟨v1, vs1, d1, ds1, p1, q1, rfl, rfl, rfl, h1, r1⟩ := trodAll_cons r0
  obtain ⟨v2, vs2, d2, ds2, p2, q2, rfl, rfl, rfl, h2, r2⟩ := trodAll_cons r1
  obtain ⟨rfl, rfl, rfl⟩ := trodAll_nil r2
  obtain rfl : args = #[v0, v1, v2] := by cases args; simp_all
  obtain ⟨rfl, rfl⟩ := trodVars_none hV
  obtain ⟨x1, rfl, rfl, rfl, wf1⟩ := open_int Tryd.underlying3 (hval 1 3 v1 rfl rfl) h1
  obtain ⟨x2, rfl, rfl, rfl, wf2⟩ := open_int Tryd.underlying5 (hval 2 5 v2 rfl rfl) h2
  have walk : Calls Tryd.prog 7 #[v0, .int .i64 x1, .int .u8 x2] W (fun e W' => e = .returned (.bool true) ∧ Below W.heap.size W W') := by
    have hE := envE_of hL hsh
    obtain ⟨A1, len1, cap1, rfl⟩ := okWide_slice Tryd.underlying23 (hval 0 23 v0 rfl rfl)
    obtain ⟨fuel, hf⟩ := h0
    rcases open_ints Tryd.underlying23 Tryd.underlying5 cells5 hf with ⟨hcs, _⟩ | ⟨a, len', cap', zs, hcs, _, hl, hm, hz, _, hcell, hwf⟩
    · simp [Value.cells] at hcs
      obtain ⟨rfl, rfl, rfl⟩ := hcs
      exact PAskD.pannierlaw20_AskData.calls _ none 0 [] x1 x2 true W ⟨rfl, by simp, fun h => by simp at h⟩ (by simp) hE (data_law [] (by simp) x1 x2 (bounds_u8 wf2) (bounds_i64 wf1)).choose_spec
    · simp [Value.cells] at hcs
      obtain ⟨rfl, rfl, rfl⟩ := hcs
      have hzl : len1 ≤ zs.length := by rw [hz]; split <;> omega
      have hlen : (zs.take len1).length = len1 := by rw [List.length_take]; omega
      have hC : Go.Proofs.YtbkhhmgpfjemcaaDoorW.PrintWords.Kd.C (Go.Proofs.YtbkhhmgpfjemcaaDoorW.PrintWords.Kd.int .u8) W (some a) (zs.take len1).length (zs.take len1) := by
        refine ⟨rfl, by rw [hlen]; unfold maxLen at hm; omega, fun _ => ⟨a, rfl, fun j p hp => ⟨[.int .u8 p], rfl, rfl, ?_⟩⟩⟩
        intro i u hu
        obtain ⟨hi, hu2⟩ := List.getElem?_eq_some_iff.1 hu
        have hi0 : i = 0 := by simpa using hi
        subst hi0
        have hu3 : u = .int .u8 p := by simpa using hu2.symm
        subst hu3
        obtain ⟨hj, hp2⟩ := List.getElem?_eq_some_iff.1 hp
        rw [hlen] at hj
        have := hcell j (by omega)
        rw [List.getElem_take] at hp2
        rw [List.getD_eq_getElem?_getD, List.getElem?_eq_getElem (by omega)] at this
        simp only [Option.getD_some, hp2] at this
        have ej : j * (Go.Proofs.YtbkhhmgpfjemcaaDoorW.PrintWords.Kd.int .u8).sz + 0 = j := by show j * 1 + 0 = j; omega
        rw [ej]
        exact this
      have h := PAskD.pannierlaw20_AskData.calls _ (some a) cap1 (zs.take len1) x1 x2 true W hC (by rw [hlen]; exact hl) hE (data_law (zs.take len1) (fun x hx => bounds_u8 (hwf x (List.mem_of_mem_take hx))) x1 x2 (bounds_u8 wf2) (bounds_i64 wf1)).choose_spec
      rw [hlen] at h
      exact h
  refine (walk).mono fun e W' ⟨he, hi⟩ => ?_
  subst he
  exact ⟨_, rfl, post_law (tb := 4) laidOut hW' rfl (by kernel_rfl) Tryd.underlying4 (by kernel_rfl) (by kernel_rfl) (hi)⟩

theorem reads (os : Os) {H : Type} (enc : TypeId × Value → H) : ∃ places, DataW.whole enc Tryd.prog ((laidWorld os).forCall (fun _ _ => 0) ⟨#[], #[.slice none 0 0, .int .i64 0, .int .u8 0], []⟩).memory Tryd.f7.params.toList Rows.askDataSpec.vars false (#[.slice none 0 0, .int .i64 0, .int .u8 0] : Array Value).toList 12 = some ([.nil, .lit (.int .i64 0), .lit (.int .u8 0)], [], places) :=
  ⟨[], by kernel_rfl⟩

set_option maxRecDepth 100000 in
theorem lifted (os : Os) (started : os.Started) (H : Type) (enc : TypeId × Value → H) (F : Stop.Interp) :
    ReturnsInHanded {} Tryd.checked os 7 .any ((OpenSpec.ofChange Rows.askDataSpec).preRow enc Tryd.prog Tryd.f7 Rows.askDataRow.domain false Rows.askDataRow.laid) (((OpenSpec.ofChange Rows.askDataSpec).at F).post enc Tryd.prog Tryd.f7 false true false false) := by
  obtain ⟨places, hx⟩ := reads os enc
  refine returnsInHanded_of_row (C := Tryd.checked) (s := OpenSpec.ofChange Rows.askDataSpec) own started (by kernel_rfl) Tryd.func7
    (witness_row_atRef (enc := enc) (C := Tryd.checked) false (laidWorld os) #[.slice none 0 0, .int .i64 0, .int .u8 0] rfl (by kernel_rfl) (by kernel_rfl) (by kernel_rfl)
      (OpenSpec.preRow_of_cond 12 hx (by kernel_rfl) (fun k hk => by cases hk) (by kernel_rfl) (laid_met os _))) ?_
  intro W base args ds gs before hval hW _ hcond hsz hL hsh _
  exact contract H enc W base args ds gs before hval hW hcond hsz hL hsh

theorem said : Rows.AskDataSaid :=
  OpenClaim.holds_of_cond 7 Tryd.f7 rfl rfl rfl rfl rfl rfl rfl ⟨rfl, rfl, rfl, rfl, rfl⟩ rfl rfl rfl rfl rfl (by kernel_rfl) Tryd.func7 (by kernel_rfl)
    (of_decide_eq_true (by kernel_rfl)) (by unfold Func.isWrapper; first | (rw [if_pos (by decide +kernel)]; kernel_rfl) | (rw [if_neg (by decide +kernel)]; exact ⟨rfl, rfl⟩))
    (fun os started H enc _ F => by rw [OpenClaim.pre_eq_preRow]; exact lifted os started H enc F)

theorem plain (f : FuncId) (fn : Func) (hf : Tryd.pinned.checked.prog.funcNamed "pannier/pannierlaw20.AskData" = some f) (hfn : Tryd.pinned.checked.prog.funcs[f]? = some fn) :
    true = Tryd.pinned.checked.prog.looks [] ∧ ∀ (j : Nat) t, fn.params[j]? = some t → Tryd.pinned.checked.prog.wantsStandIn t = false := by
  obtain rfl : f = 7 := Option.some.inj ((show Tryd.prog.funcNamed "pannier/pannierlaw20.AskData" = some 7 by kernel_rfl).symm.trans hf) |>.symm
  obtain rfl : fn = Tryd.f7 := (Option.some.inj (Tryd.func7.symm.trans hfn)).symm
  refine ⟨by kernel_rfl, fun j t ht => ?_⟩
  have hall : Tryd.f7.params.toList.all (fun t => !Tryd.prog.wantsStandIn t) = true := by kernel_rfl
  have := List.all_eq_true.1 hall t (Array.mem_toList_iff.2 (Array.mem_of_getElem? ht))
  have h2 : Tryd.prog.wantsStandIn t = false := by simpa using this
  exact h2

theorem card : Rows.AskDataCardSaid :=
  Claim7.holds_tied_plain_at .later [] _ _ _ _ said (fun _ h => by cases h) (by kernel_rfl) (fun _ h => by cases h) askData_row_tie rfl ⟨rfl, rfl⟩ (by kernel_rfl) rfl plain (by kernel_rfl)
#print axioms card
end Go.Proofs.YtbkhhmgpfjemcaaDoor.askData
