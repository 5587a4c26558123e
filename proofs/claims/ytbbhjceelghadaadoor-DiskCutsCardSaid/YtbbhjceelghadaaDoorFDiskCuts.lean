/- The law DiskCuts: for every input it returns true, and the arguments read as they did. The condition on the one listed package variable is tied to the program's text. -/
import Derived.Test.YtbbhjceelghadaaDoorQDiskCuts2
import Derived.SevenTiedAt
namespace Go.Proofs.YtbbhjceelghadaaDoor.diskCuts
open Go Go.ChangeShapes Go.WideShapes Go.ChangeAt Go.RowKit Go.Proofs.YtbbhjceelghadaaDoor.My Go.Proofs.YtbbhjceelghadaaDoor.K Go.Proofs.YtbbhjceelghadaaDoorW.PrintWords
set_option maxRecDepth 100000 in
theorem contract (H : Type) (enc : TypeId × Value → H) (W : World) (base : Nat) (args : Array Value) (ds gs : List (DataW H)) (before : List MemPlace)
    (hval : ∀ (j : Nat) t v, Tryd.f6.params[j]? = some t → args[j]? = some v → Value.okWide Tryd.prog W .any base t v)
    (hW : DataW.Whole enc Tryd.prog Tryd.f6.params.toList Rows.diskCutsSpec.vars false W args.toList ds gs before) :
    Calls Tryd.prog 6 args W fun e W' => ∃ v, e = .returned v ∧ Rows.diskCutsSpec.post enc Tryd.prog Tryd.f6 false true false false W args v W' := by
  have hW' := hW
  obtain ⟨p, q, hA0, hV, rfl, hfz, hnd⟩ := hW
  have hA : DataW.TrodAll enc Tryd.prog W 0 (fun _ => true) true Tryd.f6.params.toList args.toList ds p := hA0
  rw [Tryd.params6] at hA hval
  obtain ⟨v0, vs0, d0, ds0, p0, q0, hargs, rfl, rfl, h0, r0⟩ := trodAll_cons hA
  obtain ⟨v1, vs1, d1, ds1, p1, q1, rfl, rfl, rfl, h1, r1⟩ := trodAll_cons r0
  obtain ⟨v2, vs2, d2, ds2, p2, q2, rfl, rfl, rfl, h2, r2⟩ := trodAll_cons r1
  obtain ⟨v3, vs3, d3, ds3, p3, q3, rfl, rfl, rfl, h3, r3⟩ := trodAll_cons r2
  obtain ⟨rfl, rfl, rfl⟩ := trodAll_nil r3
  obtain rfl : args = #[v0, v1, v2, v3] := by cases args; simp_all
  obtain ⟨rfl, rfl⟩ := trodVars_none hV
  have k0 := h0
  have lt0 : ∀ x ∈ p0, x.block < W.heap.size := by obtain ⟨m, hm⟩ := k0; exact DataW.trod_lt m _ _ _ hm
  obtain ⟨B0, m0, cp0, rfl⟩ := okWide_slice Tryd.underlying23 (hval 0 23 v0 rfl rfl)
  obtain ⟨fu0, hf0⟩ := h0
  obtain ⟨A0, c0, l0, eq0, le0, C0, ok0, wt0⟩ := came_C came_kbytes enc hf0
  simp only [Value.cells, List.cons.injEq, and_true, Value.slice.injEq] at eq0
  obtain ⟨rfl, rfl, rfl⟩ := eq0
  have k1 := h1
  have lt1 : ∀ x ∈ p1, x.block < W.heap.size := by obtain ⟨m, hm⟩ := k1; exact DataW.trod_lt m _ _ _ hm
  obtain ⟨B1, m1, cp1, rfl⟩ := okWide_slice Tryd.underlying23 (hval 1 23 v1 rfl rfl)
  obtain ⟨fu1, hf1⟩ := h1
  obtain ⟨A1, c1, l1, eq1, le1, C1, ok1, wt1⟩ := came_C came_kbytes enc hf1
  simp only [Value.cells, List.cons.injEq, and_true, Value.slice.injEq] at eq1
  obtain ⟨rfl, rfl, rfl⟩ := eq1
  obtain ⟨a2, rfl, rfl, rfl, w2⟩ := open_int Tryd.underlying3 (hval 2 3 v2 rfl rfl) h2
  obtain ⟨a3, rfl, rfl, rfl⟩ := open_bool Tryd.underlying4 (hval 3 4 v3 rfl rfl) h3
  clear hA0 hval
  refine (diskCuts_row B0 cp0 l0 B1 cp1 l1 a2 a3 W C0 le0 ok0 C1 le1 ok1 (wf_i64 w2)).mono fun e W' ⟨he, bel⟩ => ?_
  subst he
  exact ⟨_, rfl, _, _, _, [], _, [], hW', trodAll_mk1 (shut_bool Tryd.underlying4 _), (trodAll_cons_mk (Below.trod laidOut (by kernel_rfl) (of_decide_eq_true (by kernel_rfl)) k0 bel lt0) (trodAll_cons_mk (Below.trod laidOut (by kernel_rfl) (of_decide_eq_true (by kernel_rfl)) k1 bel lt1) (trodAll_cons_mk (shut_int Tryd.underlying3 w2) (trodAll_cons_mk (shut_bool Tryd.underlying4 _) trodAll_mk0)))), rfl, bel.frame _, fun h => by cases h⟩
set_option maxRecDepth 100000 in
theorem lifted (os : Os) (started : os.Started) (H : Type) (enc : TypeId × Value → H) (F : Stop.Interp) :
    ReturnsInHanded {} Tryd.checked os 6 .any ((OpenSpec.ofChange Rows.diskCutsSpec).preRow enc Tryd.prog Tryd.f6 Rows.diskCutsRow.domain false Rows.diskCutsRow.laid) (((OpenSpec.ofChange Rows.diskCutsSpec).at F).post enc Tryd.prog Tryd.f6 false true false false) := by
  refine returnsInHanded_of_row (C := Tryd.checked) (s := (OpenSpec.ofChange Rows.diskCutsSpec)) own started (by kernel_rfl) Tryd.func6
    (witness_door (enc := enc) (s := (OpenSpec.ofChange Rows.diskCutsSpec)) #[.slice none 0 0, .slice none 0 0, .int .i64 0, .bool false] (by kernel_rfl) (x := ([.nil, .nil, .lit (.int .i64 0), .lit (.bool false)], [], [])) (by kernel_rfl) (fun k hk => by cases hk) (by kernel_rfl)) ?_
  intro W base args ds gs before hval hW _ _ _ _ _ _
  exact contract H enc W base args ds gs before hval hW
theorem fin : (Rows.diskCutsRow.lifted == Tryd.pinned.checked.prog.liftsFinal) = true := by rw [pin_final]; rfl
theorem mk : (Tryd.pinned.checked.prog.make == some Rows.diskCutsRow.make) = true := by rw [pin_make]; rfl
set_option maxRecDepth 100000 in
theorem closed : joinedFacts Tryd.pinned.checked.prog 6 Tryd.f6 (OpenSpec.ofChange Rows.diskCutsSpec).bare Rows.diskCutsRow = true := by
  unfold joinedFacts
  repeat' (with_reducible apply band)
  all_goals first | (with_reducible exact pin_may) | (with_reducible exact fin) | (with_reducible exact mk) | kernel_rfl
theorem said : Rows.DiskCutsSaid :=
  OpenClaim.holds_of_cond 6 Tryd.f6 rfl rfl rfl rfl rfl rfl rfl ⟨rfl, rfl, rfl, rfl, rfl⟩ rfl rfl rfl rfl rfl (by kernel_rfl) Tryd.func6 closed
    (of_decide_eq_true (by kernel_rfl)) (by unfold Func.isWrapper; first | (rw [if_pos (by decide +kernel)]; kernel_rfl) | (rw [if_neg (by decide +kernel)]; exact ⟨rfl, rfl⟩))
    (fun os started H enc _ F => by rw [OpenClaim.pre_eq_preRow]; exact lifted os started H enc F)
theorem plain (f : FuncId) (fn : Func) (hf : Tryd.pinned.checked.prog.funcNamed "stratum/stratumlaw10.DiskCuts" = some f) (hfn : Tryd.pinned.checked.prog.funcs[f]? = some fn) :
    true = Tryd.pinned.checked.prog.looks [] ∧ ∀ (j : Nat) t, fn.params[j]? = some t → Tryd.pinned.checked.prog.wantsStandIn t = false := by
  obtain rfl : f = 6 := Option.some.inj ((show Tryd.prog.funcNamed "stratum/stratumlaw10.DiskCuts" = some 6 by kernel_rfl).symm.trans hf) |>.symm
  obtain rfl : fn = Tryd.f6 := (Option.some.inj (Tryd.func6.symm.trans hfn)).symm
  refine ⟨by kernel_rfl, fun j t ht => ?_⟩
  rw [Tryd.params6] at ht
  have hm : t ∈ [23, 23, 3, 4] := by simpa using Array.mem_of_getElem? ht
  have hall : ([23, 23, 3, 4].all fun u => !Tryd.prog.wantsStandIn u) = true := by kernel_rfl
  exact (show Tryd.prog.wantsStandIn t = false by simpa using List.all_eq_true.1 hall t hm)
theorem card : Rows.DiskCutsCardSaid :=
  Claim7.holds_tied_plain_at .later [] _ _ _ _ said (fun _ h => by cases h) (by kernel_rfl) (fun _ h => by cases h) diskCuts_row_tie rfl ⟨rfl, rfl⟩ pin_main rfl plain (by kernel_rfl)
end Go.Proofs.YtbbhjceelghadaaDoor.diskCuts
namespace Go.Proofs.YtbbhjceelghadaaDoor
theorem diskCuts_holds : Rows.DiskCutsCardSaid := diskCuts.card
#print axioms diskCuts_holds
end Go.Proofs.YtbbhjceelghadaaDoor
