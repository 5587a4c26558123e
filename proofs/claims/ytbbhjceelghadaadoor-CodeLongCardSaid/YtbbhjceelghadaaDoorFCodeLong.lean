/- The law CodeLong: for every input it returns true, and the arguments read as they did. The condition on the one listed package variable is tied to the program's text. -/
import Derived.Test.YtbbhjceelghadaaDoorQCodeLong7
import Derived.Test.YtbbhjceelghadaaDoorRows
import Derived.Test.YtbbhjceelghadaaDoorCards
import Derived.Test.YtbbhjceelghadaaDoorTie
import Derived.WalkKit
import Derived.ProofKit
import Derived.OpenShut
import Derived.Deep.DeepHandedRow
import Derived.SevenTiedAt
namespace Go.Proofs.YtbbhjceelghadaaDoor.codeLong
open Go Go.ChangeShapes Go.WideShapes Go.ChangeAt Go.RowKit Go.Proofs.YtbbhjceelghadaaDoor.My Go.Proofs.YtbbhjceelghadaaDoor.K Go.Proofs.YtbbhjceelghadaaDoorW.PrintWords
set_option maxRecDepth 100000 in
theorem contract (H : Type) (enc : TypeId × Value → H) (W : World) (base : Nat) (args : Array Value) (ds gs : List (DataW H)) (before : List MemPlace)
    (hval : ∀ (j : Nat) t v, Tryd.f14.params[j]? = some t → args[j]? = some v → Value.okWide Tryd.prog W .any base t v)
    (hW : DataW.Whole enc Tryd.prog Tryd.f14.params.toList Rows.codeLongSpec.vars false W args.toList ds gs before) :
    Calls Tryd.prog 14 args W fun e W' => ∃ v, e = .returned v ∧ Rows.codeLongSpec.post enc Tryd.prog Tryd.f14 false true false false W args v W' := by
  have hW' := hW
  obtain ⟨p, q, hA0, hV, rfl, hfz, hnd⟩ := hW
  have hA : DataW.TrodAll enc Tryd.prog W 0 (fun _ => true) true Tryd.f14.params.toList args.toList ds p := hA0
  rw [Tryd.params14] at hA hval
  obtain ⟨v0, vs0, d0, ds0, p0, q0, hargs, rfl, rfl, h0, r0⟩ := trodAll_cons hA
  obtain ⟨v1, vs1, d1, ds1, p1, q1, rfl, rfl, rfl, h1, r1⟩ := trodAll_cons r0
  obtain ⟨v2, vs2, d2, ds2, p2, q2, rfl, rfl, rfl, h2, r2⟩ := trodAll_cons r1
  obtain ⟨rfl, rfl, rfl⟩ := trodAll_nil r2
  obtain rfl : args = #[v0, v1, v2] := by cases args; simp_all
  obtain ⟨rfl, rfl⟩ := trodVars_none hV
  obtain ⟨a0, rfl, rfl, rfl, w0⟩ := open_int Tryd.underlying49 (hval 0 49 v0 rfl rfl) h0
  obtain ⟨a1, rfl, rfl, rfl, w1⟩ := open_int Tryd.underlying5 (hval 1 5 v1 rfl rfl) h1
  have k2 := h2
  have lt2 : ∀ x ∈ p2, x.block < W.heap.size := by obtain ⟨m, hm⟩ := k2; exact DataW.trod_lt m _ _ _ hm
  obtain ⟨B2, m2, cp2, rfl⟩ := okWide_slice Tryd.underlying51 (hval 2 51 v2 rfl rfl)
  obtain ⟨fu2, hf2⟩ := h2
  obtain ⟨A2, c2, l2, eq2, le2, C2, ok2, wt2⟩ := came_C came_facts enc hf2
  simp only [Value.cells, List.cons.injEq, and_true, Value.slice.injEq] at eq2
  obtain ⟨rfl, rfl, rfl⟩ := eq2
  clear hA0 hval
  refine (codeLong_walk a0 a1 B2 cp2 l2 W (wf_u32 w0) (wf_u8 w1) C2 le2 ok2).mono fun e W' ⟨he, bel⟩ => ?_
  subst he
  exact ⟨_, rfl, _, _, _, [], _, [], hW', trodAll_mk1 (shut_bool Tryd.underlying4 _), (trodAll_cons_mk (shut_int Tryd.underlying49 w0) (trodAll_cons_mk (shut_int Tryd.underlying5 w1) (trodAll_cons_mk (Below.trod laidOut (by kernel_rfl) (of_decide_eq_true (by kernel_rfl)) k2 bel lt2) trodAll_mk0))), rfl, bel.frame _, fun h => by cases h⟩
set_option maxRecDepth 100000 in
theorem lifted (os : Os) (started : os.Started) (H : Type) (enc : TypeId × Value → H) (F : Stop.Interp) :
    ReturnsInHanded {} Tryd.checked os 14 .any ((OpenSpec.ofChange Rows.codeLongSpec).preRow enc Tryd.prog Tryd.f14 Rows.codeLongRow.domain false Rows.codeLongRow.laid) (((OpenSpec.ofChange Rows.codeLongSpec).at F).post enc Tryd.prog Tryd.f14 false true false false) := by
  refine returnsInHanded_of_row (C := Tryd.checked) (s := (OpenSpec.ofChange Rows.codeLongSpec)) own started (by kernel_rfl) Tryd.func14
    (witness_door (enc := enc) (s := (OpenSpec.ofChange Rows.codeLongSpec)) #[.int .u32 0, .int .u8 0, .slice none 0 0] (by kernel_rfl) (x := ([.lit (.int .u32 0), .lit (.int .u8 0), .nil], [], [])) (by kernel_rfl) (fun k hk => by cases hk) (by kernel_rfl)) ?_
  intro W base args ds gs before hval hW _ _ _ _ _ _
  exact contract H enc W base args ds gs before hval hW
theorem fin : (Rows.codeLongRow.lifted == Tryd.pinned.checked.prog.liftsFinal) = true := by rw [pin_final]; rfl
theorem mk : (Tryd.pinned.checked.prog.make == some Rows.codeLongRow.make) = true := by rw [pin_make]; rfl
set_option maxRecDepth 100000 in
theorem closed : joinedFacts Tryd.pinned.checked.prog 14 Tryd.f14 (OpenSpec.ofChange Rows.codeLongSpec).bare Rows.codeLongRow = true := by
  unfold joinedFacts
  repeat' (with_reducible apply band)
  all_goals first | (with_reducible exact pin_may) | (with_reducible exact fin) | (with_reducible exact mk) | kernel_rfl
theorem said : Rows.CodeLongSaid :=
  OpenClaim.holds_of_cond 14 Tryd.f14 rfl rfl rfl rfl rfl rfl rfl ⟨rfl, rfl, rfl, rfl, rfl⟩ rfl rfl rfl rfl rfl (by kernel_rfl) Tryd.func14 closed
    (of_decide_eq_true (by kernel_rfl)) (by unfold Func.isWrapper; first | (rw [if_pos (by decide +kernel)]; kernel_rfl) | (rw [if_neg (by decide +kernel)]; exact ⟨rfl, rfl⟩))
    (fun os started H enc _ F => by rw [OpenClaim.pre_eq_preRow]; exact lifted os started H enc F)
theorem plain (f : FuncId) (fn : Func) (hf : Tryd.pinned.checked.prog.funcNamed "stratum/stratumlaw07.CodeLong" = some f) (hfn : Tryd.pinned.checked.prog.funcs[f]? = some fn) :
    true = Tryd.pinned.checked.prog.looks [] ∧ ∀ (j : Nat) t, fn.params[j]? = some t → Tryd.pinned.checked.prog.wantsStandIn t = false := by
  obtain rfl : f = 14 := Option.some.inj ((show Tryd.prog.funcNamed "stratum/stratumlaw07.CodeLong" = some 14 by kernel_rfl).symm.trans hf) |>.symm
  obtain rfl : fn = Tryd.f14 := (Option.some.inj (Tryd.func14.symm.trans hfn)).symm
  refine ⟨by kernel_rfl, fun j t ht => ?_⟩
  rw [Tryd.params14] at ht
  have hm : t ∈ [49, 5, 51] := by simpa using Array.mem_of_getElem? ht
  have hall : ([49, 5, 51].all fun u => !Tryd.prog.wantsStandIn u) = true := by kernel_rfl
  exact (show Tryd.prog.wantsStandIn t = false by simpa using List.all_eq_true.1 hall t hm)
theorem card : Rows.CodeLongCardSaid :=
  Claim7.holds_tied_plain_at .later [] _ _ _ _ said (fun _ h => by cases h) (by kernel_rfl) (fun _ h => by cases h) codeLong_row_tie rfl ⟨rfl, rfl⟩ pin_main rfl plain (by kernel_rfl)
end Go.Proofs.YtbbhjceelghadaaDoor.codeLong
namespace Go.Proofs.YtbbhjceelghadaaDoor
theorem codeLong_holds : Rows.CodeLongCardSaid := codeLong.card
#print axioms codeLong_holds
end Go.Proofs.YtbbhjceelghadaaDoor
