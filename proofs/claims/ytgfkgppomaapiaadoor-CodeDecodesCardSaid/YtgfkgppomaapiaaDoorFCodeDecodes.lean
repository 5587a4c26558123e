/- The law CodeDecodes: for every input it returns true, and the arguments read as they did. The condition on the one listed package variable is tied to the program's text. -/
import Derived.Test.YtgfkgppomaapiaaDoorQCodeDecodes7
import Derived.SevenTiedAt
namespace Go.Proofs.YtgfkgppomaapiaaDoor.codeDecodes
open Go Go.ChangeShapes Go.WideShapes Go.ChangeAt Go.RowKit Go.Proofs.YtgfkgppomaapiaaDoor.My Go.Proofs.YtgfkgppomaapiaaDoor.K Go.Proofs.YtgfkgppomaapiaaDoorW.PrintWords
set_option maxRecDepth 100000 in
theorem contract (H : Type) (enc : TypeId × Value → H) (W : World) (base : Nat) (args : Array Value) (ds gs : List (DataW H)) (before : List MemPlace)
    (hval : ∀ (j : Nat) t v, Tryd.f5.params[j]? = some t → args[j]? = some v → Value.okWide Tryd.prog W .any base t v)
    (hW : DataW.Whole enc Tryd.prog Tryd.f5.params.toList Rows.codeDecodesSpec.vars false W args.toList ds gs before) :
    Calls Tryd.prog 5 args W fun e W' => ∃ v, e = .returned v ∧ Rows.codeDecodesSpec.post enc Tryd.prog Tryd.f5 false true false false W args v W' := by
  have hW' := hW
  obtain ⟨p, q, hA0, hV, rfl, hfz, hnd⟩ := hW
  have hA : DataW.TrodAll enc Tryd.prog W 0 (fun _ => true) true Tryd.f5.params.toList args.toList ds p := hA0
  rw [Tryd.params5] at hA hval
  obtain ⟨v0, vs0, d0, ds0, p0, q0, hargs, rfl, rfl, h0, r0⟩ := trodAll_cons hA
  obtain ⟨rfl, rfl, rfl⟩ := trodAll_nil r0
  obtain rfl : args = #[v0] := by cases args; simp_all
  obtain ⟨rfl, rfl⟩ := trodVars_none hV
  have k0 := h0
  have lt0 : ∀ x ∈ p0, x.block < W.heap.size := by obtain ⟨m, hm⟩ := k0; exact DataW.trod_lt m _ _ _ hm
  obtain ⟨B0, m0, cp0, rfl⟩ := okWide_slice Tryd.underlying33 (hval 0 33 v0 rfl rfl)
  obtain ⟨fu0, hf0⟩ := h0
  obtain ⟨A0, c0, l0, eq0, le0, C0, ok0, wt0⟩ := came_C came_bytes enc hf0
  simp only [Value.cells, List.cons.injEq, and_true, Value.slice.injEq] at eq0
  obtain ⟨rfl, rfl, rfl⟩ := eq0
  clear hA0 hval
  refine (codeDecodes_walk B0 cp0 l0 W C0 le0 ok0).mono fun e W' ⟨he, bel⟩ => ?_
  subst he
  exact ⟨_, rfl, _, _, _, [], _, [], hW', trodAll_mk1 (shut_bool Tryd.underlying4 _), (trodAll_cons_mk (Below.trod laidOut (by kernel_rfl) (of_decide_eq_true (by kernel_rfl)) k0 bel lt0) trodAll_mk0), rfl, bel.frame _, fun h => by cases h⟩
set_option maxRecDepth 100000 in
theorem lifted (os : Os) (started : os.Started) (H : Type) (enc : TypeId × Value → H) (F : Stop.Interp) :
    ReturnsInHanded {} Tryd.checked os 5 .any ((OpenSpec.ofChange Rows.codeDecodesSpec).preRow enc Tryd.prog Tryd.f5 Rows.codeDecodesRow.domain false Rows.codeDecodesRow.laid) (((OpenSpec.ofChange Rows.codeDecodesSpec).at F).post enc Tryd.prog Tryd.f5 false true false false) := by
  refine returnsInHanded_of_row (C := Tryd.checked) (s := (OpenSpec.ofChange Rows.codeDecodesSpec)) own started (by kernel_rfl) Tryd.func5
    (witness_door (enc := enc) (s := (OpenSpec.ofChange Rows.codeDecodesSpec)) #[.slice none 0 0] (by kernel_rfl) (x := ([.nil], [], [])) (by kernel_rfl) (fun k hk => by cases hk) (by kernel_rfl)) ?_
  intro W base args ds gs before hval hW _ _ _ _ _ _
  exact contract H enc W base args ds gs before hval hW
theorem fin : (Rows.codeDecodesRow.lifted == Tryd.pinned.checked.prog.liftsFinal) = true := by rw [pin_final]; rfl
theorem mk : (Tryd.pinned.checked.prog.make == some Rows.codeDecodesRow.make) = true := by rw [pin_make]; rfl
set_option maxRecDepth 100000 in
theorem closed : joinedFacts Tryd.pinned.checked.prog 5 Tryd.f5 (OpenSpec.ofChange Rows.codeDecodesSpec).bare Rows.codeDecodesRow = true := by
  unfold joinedFacts
  repeat' (with_reducible apply band)
  all_goals first | (with_reducible exact pin_may) | (with_reducible exact fin) | (with_reducible exact mk) | kernel_rfl
theorem said : Rows.CodeDecodesSaid :=
  OpenClaim.holds_of_cond 5 Tryd.f5 rfl rfl rfl rfl rfl rfl rfl ⟨rfl, rfl, rfl, rfl, rfl⟩ rfl rfl rfl rfl rfl (by kernel_rfl) Tryd.func5 closed
    (of_decide_eq_true (by kernel_rfl)) (by unfold Func.isWrapper; first | (rw [if_pos (by decide +kernel)]; kernel_rfl) | (rw [if_neg (by decide +kernel)]; exact ⟨rfl, rfl⟩))
    (fun os started H enc _ F => by rw [OpenClaim.pre_eq_preRow]; exact lifted os started H enc F)
theorem plain (f : FuncId) (fn : Func) (hf : Tryd.pinned.checked.prog.funcNamed "stratum/stratumlaw07.CodeDecodes" = some f) (hfn : Tryd.pinned.checked.prog.funcs[f]? = some fn) :
    true = Tryd.pinned.checked.prog.looks [] ∧ ∀ (j : Nat) t, fn.params[j]? = some t → Tryd.pinned.checked.prog.wantsStandIn t = false := by
  obtain rfl : f = 5 := Option.some.inj ((show Tryd.prog.funcNamed "stratum/stratumlaw07.CodeDecodes" = some 5 by kernel_rfl).symm.trans hf) |>.symm
  obtain rfl : fn = Tryd.f5 := (Option.some.inj (Tryd.func5.symm.trans hfn)).symm
  refine ⟨by kernel_rfl, fun j t ht => ?_⟩
  rw [Tryd.params5] at ht
  have hm : t ∈ [33] := by simpa using Array.mem_of_getElem? ht
  have hall : ([33].all fun u => !Tryd.prog.wantsStandIn u) = true := by kernel_rfl
  exact (show Tryd.prog.wantsStandIn t = false by simpa using List.all_eq_true.1 hall t hm)
theorem card : Rows.CodeDecodesCardSaid :=
  Claim7.holds_tied_plain_at .later [] _ _ _ _ said (fun _ h => by cases h) (by kernel_rfl) (fun _ h => by cases h) codeDecodes_row_tie rfl ⟨rfl, rfl⟩ pin_main rfl plain (by kernel_rfl)
end Go.Proofs.YtgfkgppomaapiaaDoor.codeDecodes
namespace Go.Proofs.YtgfkgppomaapiaaDoor
theorem codeDecodes_holds : Rows.CodeDecodesCardSaid := codeDecodes.card
#print axioms codeDecodes_holds
end Go.Proofs.YtgfkgppomaapiaaDoor
