/- The law DiskRoom: for every input it returns true, and the arguments read as they did. The condition on the one listed package variable is tied to the program's text. -/
import Derived.Test.YtbbhjceelghadaaDoorQDiskRoom2
import Derived.SevenTiedAt
namespace Go.Proofs.YtbbhjceelghadaaDoor.diskRoom
open Go Go.ChangeShapes Go.WideShapes Go.ChangeAt Go.RowKit Go.Proofs.YtbbhjceelghadaaDoor.My Go.Proofs.YtbbhjceelghadaaDoor.K Go.Proofs.YtbbhjceelghadaaDoorW.PrintWords
set_option maxRecDepth 100000 in
theorem contract (H : Type) (enc : TypeId × Value → H) (W : World) (base : Nat) (args : Array Value) (ds gs : List (DataW H)) (before : List MemPlace)
    (hval : ∀ (j : Nat) t v, Tryd.f4.params[j]? = some t → args[j]? = some v → Value.okWide Tryd.prog W .any base t v)
    (hW : DataW.Whole enc Tryd.prog Tryd.f4.params.toList Rows.diskRoomSpec.vars false W args.toList ds gs before) (hsz : (DataW.weightsEach Tryd.prog (Tryd.f4.params.toList ++ (OpenSpec.ofChange Rows.diskRoomSpec).bare.plain.varTypes Tryd.prog) (ds ++ gs)).all (· ≤ reachBytes) = true) :
    Calls Tryd.prog 4 args W fun e W' => ∃ v, e = .returned v ∧ Rows.diskRoomSpec.post enc Tryd.prog Tryd.f4 false true false false W args v W' := by
  have hW' := hW
  obtain ⟨p, q, hA0, hV, rfl, hfz, hnd⟩ := hW
  have hA : DataW.TrodAll enc Tryd.prog W 0 (fun _ => true) true Tryd.f4.params.toList args.toList ds p := hA0
  rw [Tryd.params4] at hA hval
  obtain ⟨v0, vs0, d0, ds0, p0, q0, hargs, rfl, rfl, h0, r0⟩ := trodAll_cons hA
  obtain ⟨v1, vs1, d1, ds1, p1, q1, rfl, rfl, rfl, h1, r1⟩ := trodAll_cons r0
  obtain ⟨rfl, rfl, rfl⟩ := trodAll_nil r1
  obtain rfl : args = #[v0, v1] := by cases args; simp_all
  obtain ⟨rfl, rfl⟩ := trodVars_none hV
  obtain ⟨a0, rfl, rfl, rfl, w0⟩ := open_int Tryd.underlying27 (hval 0 27 v0 rfl rfl) h0
  have k1 := h1
  have lt1 : ∀ x ∈ p1, x.block < W.heap.size := by obtain ⟨m, hm⟩ := k1; exact DataW.trod_lt m _ _ _ hm
  obtain ⟨B1, m1, cp1, rfl⟩ := okWide_slice Tryd.underlying34 (hval 1 34 v1 rfl rfl)
  obtain ⟨fu1, hf1⟩ := h1
  obtain ⟨A1, c1, l1, eq1, le1, C1, ok1⟩ := came_CS cameS_ops enc hf1 (reach_arg hsz (j := 1) rfl rfl)
  simp only [Value.cells, List.cons.injEq, and_true, Value.slice.injEq] at eq1
  obtain ⟨rfl, rfl, rfl⟩ := eq1
  clear hA0 hval
  refine (diskRoom_walk a0 B1 cp1 l1 W (wf_u16 w0) C1 le1 ok1).mono fun e W' ⟨he, bel⟩ => ?_
  subst he
  exact ⟨_, rfl, _, _, _, [], _, [], hW', trodAll_mk1 (shut_bool Tryd.underlying4 _), (trodAll_cons_mk (shut_int Tryd.underlying27 w0) (trodAll_cons_mk (Below.trod laidOut (by kernel_rfl) (of_decide_eq_true (by kernel_rfl)) k1 bel lt1) trodAll_mk0)), rfl, bel.frame _, fun h => by cases h⟩
set_option maxRecDepth 100000 in
theorem lifted (os : Os) (started : os.Started) (H : Type) (enc : TypeId × Value → H) (F : Stop.Interp) :
    ReturnsInHanded {} Tryd.checked os 4 .any ((OpenSpec.ofChange Rows.diskRoomSpec).preRow enc Tryd.prog Tryd.f4 Rows.diskRoomRow.domain false Rows.diskRoomRow.laid) (((OpenSpec.ofChange Rows.diskRoomSpec).at F).post enc Tryd.prog Tryd.f4 false true false false) := by
  refine returnsInHanded_of_row (C := Tryd.checked) (s := (OpenSpec.ofChange Rows.diskRoomSpec)) own started (by kernel_rfl) Tryd.func4
    (witness_door (enc := enc) (s := (OpenSpec.ofChange Rows.diskRoomSpec)) #[.int .u16 0, .slice none 0 0] (by kernel_rfl) (x := ([.lit (.int .u16 0), .nil], [], [])) (by kernel_rfl) (fun k hk => by cases hk) (by kernel_rfl)) ?_
  intro W base args ds gs before hval hW _ _ hsz _ _ _
  exact contract H enc W base args ds gs before hval hW hsz
theorem fin : (Rows.diskRoomRow.lifted == Tryd.pinned.checked.prog.liftsFinal) = true := by rw [pin_final]; rfl
theorem mk : (Tryd.pinned.checked.prog.make == some Rows.diskRoomRow.make) = true := by rw [pin_make]; rfl
set_option maxRecDepth 100000 in
theorem closed : joinedFacts Tryd.pinned.checked.prog 4 Tryd.f4 (OpenSpec.ofChange Rows.diskRoomSpec).bare Rows.diskRoomRow = true := by
  unfold joinedFacts
  repeat' (with_reducible apply band)
  all_goals first | (with_reducible exact pin_may) | (with_reducible exact fin) | (with_reducible exact mk) | kernel_rfl
theorem said : Rows.DiskRoomSaid :=
  OpenClaim.holds_of_cond 4 Tryd.f4 rfl rfl rfl rfl rfl rfl rfl ⟨rfl, rfl, rfl, rfl, rfl⟩ rfl rfl rfl rfl rfl (by kernel_rfl) Tryd.func4 closed
    (of_decide_eq_true (by kernel_rfl)) (by unfold Func.isWrapper; first | (rw [if_pos (by decide +kernel)]; kernel_rfl) | (rw [if_neg (by decide +kernel)]; exact ⟨rfl, rfl⟩))
    (fun os started H enc _ F => by rw [OpenClaim.pre_eq_preRow]; exact lifted os started H enc F)
theorem plain (f : FuncId) (fn : Func) (hf : Tryd.pinned.checked.prog.funcNamed "stratum/stratumlaw10.DiskRoom" = some f) (hfn : Tryd.pinned.checked.prog.funcs[f]? = some fn) :
    true = Tryd.pinned.checked.prog.looks [] ∧ ∀ (j : Nat) t, fn.params[j]? = some t → Tryd.pinned.checked.prog.wantsStandIn t = false := by
  obtain rfl : f = 4 := Option.some.inj ((show Tryd.prog.funcNamed "stratum/stratumlaw10.DiskRoom" = some 4 by kernel_rfl).symm.trans hf) |>.symm
  obtain rfl : fn = Tryd.f4 := (Option.some.inj (Tryd.func4.symm.trans hfn)).symm
  refine ⟨by kernel_rfl, fun j t ht => ?_⟩
  rw [Tryd.params4] at ht
  have hm : t ∈ [27, 34] := by simpa using Array.mem_of_getElem? ht
  have hall : ([27, 34].all fun u => !Tryd.prog.wantsStandIn u) = true := by kernel_rfl
  exact (show Tryd.prog.wantsStandIn t = false by simpa using List.all_eq_true.1 hall t hm)
theorem card : Rows.DiskRoomCardSaid :=
  Claim7.holds_tied_plain_at .later [] _ _ _ _ said (fun _ h => by cases h) (by kernel_rfl) (fun _ h => by cases h) diskRoom_row_tie rfl ⟨rfl, rfl⟩ pin_main rfl plain (by kernel_rfl)
end Go.Proofs.YtbbhjceelghadaaDoor.diskRoom
namespace Go.Proofs.YtbbhjceelghadaaDoor
theorem diskRoom_holds : Rows.DiskRoomCardSaid := diskRoom.card
#print axioms diskRoom_holds
end Go.Proofs.YtbbhjceelghadaaDoor
