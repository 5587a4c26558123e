/- Parts of the proof, one behind the other: K45, K1, K46, K47, K48, SameP, SoundL, Apart, MsgR, MsgS, BytesW, MsgE. -/
import Derived.Test.YtgfkgppomaapiaaDoorQMsgApart6
import Derived.Lib.SliceRun
set_option linter.unusedVariables false
set_option linter.unusedSimpArgs false
section
namespace Go.Proofs.YtgfkgppomaapiaaDoor.K
open Go.RowKit Go.Proofs.YtgfkgppomaapiaaDoorW.PrintWords Go.Proofs.YtgfkgppomaapiaaDoorW.PrintLast Go.Proofs.YtgfkgppomaapiaaDoorW.PrintMore
attribute [local go_sem] kE kQ
def stratumref07_SameFacts.f (k : Nat) (l0 : List (S139)) (l1 : List (S139)) : Option (Bool) := (stratumref07_Facts.f k ([] : List Int) l0).bind fun t210 => ((stratumref07_Facts.f k ([] : List Int) l1).bind fun t213 => (some ((strOfNums t210).toList == (strOfNums t213).toList)))
def stratumref07_SameFacts.T1 : Bool × List (List Nat × List Nat) := (true, [([], []), ([0], [0]), ([1], [1]), ([], []), ([3, 1], [3]), ([4], [4]), ([2, 5], [2, 5]), ([6, 4, 0, 1, 2, 3, 4, 5, 6], [6])])
def stratumref07_SameFacts.B1 : List Nat := [0, 1, 3, 0, 11, 27, 63, 127]
theorem stratumref07_SameFacts.tab1 : rtab .any (opsOf Tryd.f76 1) = stratumref07_SameFacts.T1 := by kernel_rfl
theorem stratumref07_SameFacts.bits1 : lK stratumref07_SameFacts.T1.2 stratumref07_SameFacts.B1 = true := by kernel_rfl
set_option maxHeartbeats 8000000 in
set_option maxRecDepth 100000 in
theorem stratumref07_SameFacts.calls (k : Nat) (A0 : Option Addr) (c0 : Nat) (l0 : List (S139)) (A1 : Option Addr) (c1 : Nat) (l1 : List (S139)) (r : Bool) (w : World) (hr0 : Kd.C k139 w A0 l0.length l0) (hc0 : l0.length ≤ c0) (hr1 : Kd.C k139 w A1 l1.length l1) (hc1 : l1.length ≤ c1) (h : stratumref07_SameFacts.f k l0 l1 = some r) :
    Calls Tryd.prog 76 #[.slice A0 l0.length c0, .slice A1 l1.length c1] w fun e w' => e = .returned (.bool r) ∧ Below w.heap.size w w' := by
  have HR0 := iD.mk hr0
  have HC0 := iD.mk hc0
  clear hr0 hc0
  have HR1 := iD.mk hr1
  have HC1 := iD.mk hc1
  clear hr1 hc1
  have HB := iD.mk (Below.refl w.heap.size w)
  have H : ((stratumref07_Facts.f k ([] : List Int) l0).bind fun t210 => ((stratumref07_Facts.f k ([] : List Int) l1).bind fun t213 => (some ((strOfNums t210).toList == (strOfNums t213).toList)))) = some r := h
  clear h
  replace H := Option.bind_eq_some_iff.mp H
  obtain ⟨t210, A30, H⟩ := H
  replace H : ((stratumref07_Facts.f k ([] : List Int) l1).bind fun t213 => (some ((strOfNums t210).toList == (strOfNums t213).toList))) = some r := H
  have A3 := iD.mk A30
  clear A30
  replace H := Option.bind_eq_some_iff.mp H
  obtain ⟨t213, A40, H⟩ := H
  replace H : (some ((strOfNums t210).toList == (strOfNums t213).toList)) = some r := H
  have A4 := iD.mk A40
  clear A40
  obtain rfl := Option.some.inj H
  go_enter Tryd.func76, Tryd.ntmps76
  try go_wp2
  have n0_ := iD.mk (iJ HB.out)
  clear HB
  have HB := n0_
  clear n0_
  refine nZ (n := 8) (S := fun w' => True) (ds := []) #[false, false, false, false, false, false, false, false] (by kernel_rfl) rfl rfl trivial (fun hHeld => ?_); refine lD stratumref07_SameFacts.tab1 stratumref07_SameFacts.bits1 (fun HT_ HW_ => ?_)
  generalize w.drew = w5 at HB hHeld ⊢
  refine jF (i := 0) (N := some 5) (v := ?_) (a' := ?_) #[true, false, false, false, false, false, false, false] rfl rfl (iZ HT_.out (by kernel_rfl)) (fun _ _ _ h => h) (Or.inl ⟨by rfl, ?_⟩) ?_ ?_
  rotate_left
  · intro w'
    go_simp
    with_reducible rfl
  rotate_left
  · simp only [Act.put, List.setIfInBounds_toArray, List.set_cons_zero, List.set_cons_succ, iP, iY]
    rfl
  refine jF (i := 3) (N := some 8) (v := ?_) (a' := ?_) #[true, false, false, true, false, false, false, false] rfl rfl (iZ HT_.out (by kernel_rfl)) (fun _ _ _ h => h) (Or.inl ⟨by rfl, ?_⟩) ?_ ?_
  rotate_left
  · intro w'
    go_simp
    with_reducible rfl
  rotate_left
  · simp only [Act.put, List.setIfInBounds_toArray, List.set_cons_zero, List.set_cons_succ, iP, iY]
    rfl
  refine one_ (i := 1) (N := some 6) #[true, true, false, true, false, false, false, false] rfl rfl (kU HT_.out (by kernel_rfl)) (by decide) (fun K hK => ?_)
  refine pW Tryd.func59 (by kernel_rfl) rfl #[.slice none 0 0, .slice A0 l0.length c0] (by rfl) rfl rfl (by (try simp only [List.map_toArray, List.map_cons, List.map_nil]); first | done | rfl | (simp only [List.length_drop, List.length_take]; rfl)) ?_
  refine (stratumref07_Facts.calls k (fun k_ => some k_ = (.slice none 0 0 : Value).ownBlock) (.slice none 0 0) ([] : List Int) _ _ l0 t210 w _ ?side1 ?side2 ?side3 ?side4 A3.out).mono ?_
  (case side1 => repeat (first | (with_reducible first | exact HB.out | apply iF | apply iG | apply iJ) | exact HB.out))
  (case side2 => exact Kd.R_nil _ _ _ _ _)
  (case side3 => exact Kd.C_kept_came uA HR0.out hb_ (fun k_ hs_ => (fun e_ => by simp [Value.ownBlock] at e_) hs_))
  (case side4 => exact HC0.out)
  rintro e w6 ⟨v211, rfl, ho0, hb, hkp⟩
  refine ⟨_, rfl, ?_⟩
  have n0_ := iD.mk (Kd.R_mono (ok' := fun k_ => True) ho0 (fun k_ hk_ => trivial))
  have n1_ := iD.mk (hb)
  clear HB
  have HO212 := n0_
  have HB := n1_
  clear n0_ n1_
  (try clear hb)
  (try clear hkp)
  (try clear ho0)
  refine hK.out _ _ trivial (fun hHeld => ?_)
  clear hK K
  refine kY (a' := ?_) ?_ ?_
  rotate_left
  · show Act.put _ (some 6) _ = _
    simp only [Act.put, List.setIfInBounds_toArray, List.set_cons_zero, List.set_cons_succ, iP, iY]
    rfl
  refine XJ (σ := Value) 2 #[true, true, true, true, true, true, false, false] (fun s_ => [(7, .string (strOfNums t210)), (9, s_), (10, .string (strOfNums t213))]) (fun s_ w' => (Kd.R (Kd.int .u8) 5 w' w.heap.size (fun k_ => some k_ ≠ (s_ : Value).ownBlock) v211 t210) ∧ (Kd.R (Kd.int .u8) 5 w' w.heap.size (fun k_ => some k_ ≠ (v211 : Value).ownBlock) s_ t213) ∧ (Below w.heap.size w w')) ?_ ?_
  rotate_left
  · intro hCont
    refine two_ (i := 2) (j := 4) (Ni := some 7) (Nj := some 9) #[true, true, true, true, false, false, false, false] #[true, true, false, true, true, false, false, false] rfl rfl rfl rfl (MX HT_.out (by kernel_rfl)) (by decide) (by decide) (fun K hK => ?_) (fun K hK => ?_)
    · skip
      have hcv7 := kM (P := Tryd.prog) Tryd.underlying33 Tryd.underlying5 Tryd.underlying9 (Kd.own_of_R HO212.out)
      refine jQ (w1 := ?_) (v := ?_) (by rfl) rfl ?_ ?_
      rotate_left 2
      · go_simp
        constructor
        · rfl
        · rfl
      clear hcv7
      refine hK.out _ _ trivial (fun hHeld => ?_)
      clear hK K
      refine kY (a' := ?_) ?_ ?_
      rotate_left
      · show Act.put _ (some 7) _ = _
        simp only [Act.put, List.setIfInBounds_toArray, List.set_cons_zero, List.set_cons_succ, iP, iY]
        rfl
      refine one_ (i := 4) (N := some 9) #[true, true, true, true, true, false, false, false] rfl rfl (kU HT_.out (by kernel_rfl)) (by decide) (fun K hK => ?_)
      refine pW Tryd.func59 (by kernel_rfl) rfl #[.slice none 0 0, .slice A1 l1.length c1] (by rfl) rfl rfl (by (try simp only [List.map_toArray, List.map_cons, List.map_nil]); first | done | rfl | (simp only [List.length_drop, List.length_take]; rfl)) ?_
      refine (stratumref07_Facts.calls k (fun k_ => some k_ = (.slice none 0 0 : Value).ownBlock) (.slice none 0 0) ([] : List Int) _ _ l1 t213 w _ ?side1 ?side2 ?side3 ?side4 A4.out).mono ?_
      (case side1 => repeat (first | (with_reducible first | exact HB.out | apply iF | apply iG | apply iJ) | exact HB.out))
      (case side2 => exact Kd.R_nil _ _ _ _ _)
      (case side3 => exact Kd.C_kept_came uA HR1.out hb_ (fun k_ hs_ => (fun e_ => by simp [Value.ownBlock] at e_) hs_))
      (case side4 => exact HC1.out)
      rintro e w8 ⟨v214, rfl, ho0, hb, hkp⟩
      refine ⟨_, rfl, ?_⟩
      have n0_ := iD.mk (Kd.R_mono (ok' := fun k_ => some k_ ≠ (v214 : Value).ownBlock) (Kd.R_keptB (HO212.out) hkp (fun k_ hk_ hs_ => (fun e_ => by simp [Value.ownBlock] at e_) hs_)) (fun k_ hk_ => fun e_ => Or.elim (ho0.1 k_ e_.symm) (fun hs_ => hk_.2.1 hs_) (fun hn_ => Nat.not_le.2 hk_.2.2 hn_)))
      have n1_ := iD.mk (Kd.R_mono (ok' := fun k_ => some k_ ≠ (v211 : Value).ownBlock) ho0 (fun k_ hk_ => Or.elim hk_ (fun hs_ => absurd hs_ (by simp [Value.ownBlock])) (fun hn_ => (Kd.fresh' (Kd.R_lt (by (with_reducible repeat (first | apply Kd.R_alloc | apply Kd.R_drewN | apply Kd.R_drew)); exact HO212.out)) k_ hn_))))
      have n2_ := iD.mk (hb)
      clear HO212
      clear HB
      have HO212 := n0_
      have HO215 := n1_
      have HB := n2_
      clear n0_ n1_ n2_
      (try clear hb)
      (try clear hkp)
      (try clear ho0)
      refine hK.out _ _ trivial (fun hHeld => ?_)
      clear hK K
      refine kY (a' := ?_) ?_ ?_
      rotate_left
      · show Act.put _ (some 9) _ = _
        simp only [Act.put, List.setIfInBounds_toArray, List.set_cons_zero, List.set_cons_succ, iP, iY]
        rfl
      refine one_ (i := 5) (N := some 10) #[true, true, true, true, true, true, false, false] rfl rfl (kU HT_.out (by kernel_rfl)) (by decide) (fun K hK => ?_)
      have hcv9 := kM (P := Tryd.prog) Tryd.underlying33 Tryd.underlying5 Tryd.underlying9 (Kd.own_of_R HO215.out)
      refine jQ (w1 := ?_) (v := ?_) (by rfl) rfl ?_ ?_
      rotate_left 2
      · go_simp
        constructor
        · rfl
        · rfl
      clear hcv9
      refine hK.out _ _ trivial (fun hHeld => ?_)
      clear hK K
      refine kY (a' := ?_) ?_ ?_
      rotate_left
      · show Act.put _ (some 10) _ = _
        simp only [Act.put, List.setIfInBounds_toArray, List.set_cons_zero, List.set_cons_succ, iP, iY]
        rfl
      exact kY (by simp only [pY, Act.put, List.setIfInBounds_toArray, List.set_cons_zero, List.set_cons_succ]) (hCont (v214) _ ⟨(by (with_reducible repeat (first | apply Kd.R_alloc | apply Kd.R_drewN | apply Kd.R_drew)); exact HO212.out), (by (with_reducible repeat (first | apply Kd.R_alloc | apply Kd.R_drewN | apply Kd.R_drew)); exact HO215.out), hb_⟩)
    · skip
      refine pW Tryd.func59 (by kernel_rfl) rfl #[.slice none 0 0, .slice A1 l1.length c1] (by rfl) rfl rfl (by (try simp only [List.map_toArray, List.map_cons, List.map_nil]); first | done | rfl | (simp only [List.length_drop, List.length_take]; rfl)) ?_
      refine (stratumref07_Facts.calls k (fun k_ => some k_ = (.slice none 0 0 : Value).ownBlock) (.slice none 0 0) ([] : List Int) _ _ l1 t213 w _ ?side1 ?side2 ?side3 ?side4 A4.out).mono ?_
      (case side1 => repeat (first | (with_reducible first | exact HB.out | apply iF | apply iG | apply iJ) | exact HB.out))
      (case side2 => exact Kd.R_nil _ _ _ _ _)
      (case side3 => exact Kd.C_kept_came uA HR1.out hb_ (fun k_ hs_ => (fun e_ => by simp [Value.ownBlock] at e_) hs_))
      (case side4 => exact HC1.out)
      rintro e w7 ⟨v214, rfl, ho0, hb, hkp⟩
      refine ⟨_, rfl, ?_⟩
      have n0_ := iD.mk (Kd.R_mono (ok' := fun k_ => some k_ ≠ (v214 : Value).ownBlock) (Kd.R_keptB (HO212.out) hkp (fun k_ hk_ hs_ => (fun e_ => by simp [Value.ownBlock] at e_) hs_)) (fun k_ hk_ => fun e_ => Or.elim (ho0.1 k_ e_.symm) (fun hs_ => hk_.2.1 hs_) (fun hn_ => Nat.not_le.2 hk_.2.2 hn_)))
      have n1_ := iD.mk (Kd.R_mono (ok' := fun k_ => some k_ ≠ (v211 : Value).ownBlock) ho0 (fun k_ hk_ => Or.elim hk_ (fun hs_ => absurd hs_ (by simp [Value.ownBlock])) (fun hn_ => (Kd.fresh' (Kd.R_lt (by (with_reducible repeat (first | apply Kd.R_alloc | apply Kd.R_drewN | apply Kd.R_drew)); exact HO212.out)) k_ hn_))))
      have n2_ := iD.mk (hb)
      clear HO212
      clear HB
      have HO212 := n0_
      have HO215 := n1_
      have HB := n2_
      clear n0_ n1_ n2_
      (try clear hb)
      (try clear hkp)
      (try clear ho0)
      refine hK.out _ _ trivial (fun hHeld => ?_)
      clear hK K
      refine kY (a' := ?_) ?_ ?_
      rotate_left
      · show Act.put _ (some 9) _ = _
        simp only [Act.put, List.setIfInBounds_toArray, List.set_cons_zero, List.set_cons_succ, iP, iY]
        rfl
      refine two_ (i := 2) (j := 5) (Ni := some 7) (Nj := some 10) #[true, true, true, true, true, false, false, false] #[true, true, false, true, true, true, false, false] rfl rfl rfl rfl (MX HT_.out (by kernel_rfl)) (by decide) (by decide) (fun K hK => ?_) (fun K hK => ?_)
      · skip
        have hcv8 := kM (P := Tryd.prog) Tryd.underlying33 Tryd.underlying5 Tryd.underlying9 (Kd.own_of_R HO212.out)
        refine jQ (w1 := ?_) (v := ?_) (by rfl) rfl ?_ ?_
        rotate_left 2
        · go_simp
          constructor
          · rfl
          · rfl
        clear hcv8
        refine hK.out _ _ trivial (fun hHeld => ?_)
        clear hK K
        refine kY (a' := ?_) ?_ ?_
        rotate_left
        · show Act.put _ (some 7) _ = _
          simp only [Act.put, List.setIfInBounds_toArray, List.set_cons_zero, List.set_cons_succ, iP, iY]
          rfl
        refine one_ (i := 5) (N := some 10) #[true, true, true, true, true, true, false, false] rfl rfl (kU HT_.out (by kernel_rfl)) (by decide) (fun K hK => ?_)
        have hcv9 := kM (P := Tryd.prog) Tryd.underlying33 Tryd.underlying5 Tryd.underlying9 (Kd.own_of_R HO215.out)
        refine jQ (w1 := ?_) (v := ?_) (by rfl) rfl ?_ ?_
        rotate_left 2
        · go_simp
          constructor
          · rfl
          · rfl
        clear hcv9
        refine hK.out _ _ trivial (fun hHeld => ?_)
        clear hK K
        refine kY (a' := ?_) ?_ ?_
        rotate_left
        · show Act.put _ (some 10) _ = _
          simp only [Act.put, List.setIfInBounds_toArray, List.set_cons_zero, List.set_cons_succ, iP, iY]
          rfl
        exact kY (by simp only [pY, Act.put, List.setIfInBounds_toArray, List.set_cons_zero, List.set_cons_succ]) (hCont (v214) _ ⟨(by (with_reducible repeat (first | apply Kd.R_alloc | apply Kd.R_drewN | apply Kd.R_drew)); exact HO212.out), (by (with_reducible repeat (first | apply Kd.R_alloc | apply Kd.R_drewN | apply Kd.R_drew)); exact HO215.out), hb_⟩)
      · skip
        have hcv8 := kM (P := Tryd.prog) Tryd.underlying33 Tryd.underlying5 Tryd.underlying9 (Kd.own_of_R HO215.out)
        refine jQ (w1 := ?_) (v := ?_) (by rfl) rfl ?_ ?_
        rotate_left 2
        · go_simp
          constructor
          · rfl
          · rfl
        clear hcv8
        refine hK.out _ _ trivial (fun hHeld => ?_)
        clear hK K
        refine kY (a' := ?_) ?_ ?_
        rotate_left
        · show Act.put _ (some 10) _ = _
          simp only [Act.put, List.setIfInBounds_toArray, List.set_cons_zero, List.set_cons_succ, iP, iY]
          rfl
        refine one_ (i := 2) (N := some 7) #[true, true, true, true, true, true, false, false] rfl rfl (kU HT_.out (by kernel_rfl)) (by decide) (fun K hK => ?_)
        have hcv9 := kM (P := Tryd.prog) Tryd.underlying33 Tryd.underlying5 Tryd.underlying9 (Kd.own_of_R HO212.out)
        refine jQ (w1 := ?_) (v := ?_) (by rfl) rfl ?_ ?_
        rotate_left 2
        · go_simp
          constructor
          · rfl
          · rfl
        clear hcv9
        refine hK.out _ _ trivial (fun hHeld => ?_)
        clear hK K
        refine kY (a' := ?_) ?_ ?_
        rotate_left
        · show Act.put _ (some 7) _ = _
          simp only [Act.put, List.setIfInBounds_toArray, List.set_cons_zero, List.set_cons_succ, iP, iY]
          rfl
        exact kY (by simp only [pY, Act.put, List.setIfInBounds_toArray, List.set_cons_zero, List.set_cons_succ]) (hCont (v214) _ ⟨(by (with_reducible repeat (first | apply Kd.R_alloc | apply Kd.R_drewN | apply Kd.R_drew)); exact HO212.out), (by (with_reducible repeat (first | apply Kd.R_alloc | apply Kd.R_drewN | apply Kd.R_drew)); exact HO215.out), hb_⟩)
  rintro v214 w10 ⟨h0_, h1_, h2_⟩
  have n0_ : iD (Kd.R (Kd.int .u8) 5 w10 w.heap.size (fun k_ => some k_ ≠ (v214 : Value).ownBlock) v211 t210) := ⟨h0_⟩
  have n1_ : iD (Kd.R (Kd.int .u8) 5 w10 w.heap.size (fun k_ => some k_ ≠ (v211 : Value).ownBlock) v214 t213) := ⟨h1_⟩
  have n2_ : iD (Below w.heap.size w w10) := ⟨h2_⟩
  clear HB
  clear h0_ h1_ h2_
  have HO212 := n0_
  have HO215 := n1_
  have HB := n2_
  clear n0_ n1_ n2_
  have hHeld := trivial
  refine kY (a' := ?_) ?_ ?_
  rotate_left
  · simp only [pY, Act.put, List.setIfInBounds_toArray, List.set_cons_zero, List.set_cons_succ]
    rfl
  refine jF (i := 6) (N := some 11) (v := ?_) (a' := ?_) #[true, true, true, true, true, true, true, false] rfl rfl (iZ HT_.out (by kernel_rfl)) (fun _ _ _ h => h) (Or.inl ⟨by rfl, ?_⟩) ?_ ?_
  rotate_left
  · intro w'
    go_simp
    with_reducible rfl
  rotate_left
  · simp only [Act.put, List.setIfInBounds_toArray, List.set_cons_zero, List.set_cons_succ, iP, iY]
    rfl
  refine jF (i := 7) (N := some 4) (v := ?_) (a' := ?_) #[true, true, true, true, true, true, true, true] rfl rfl (iZ HT_.out (by kernel_rfl)) (fun _ _ _ h => h) (Or.inl ⟨by rfl, ?_⟩) ?_ ?_
  rotate_left
  · intro w'
    go_simp
    with_reducible rfl
  rotate_left
  · simp only [Act.put, List.setIfInBounds_toArray, List.set_cons_zero, List.set_cons_succ, iP, iY]
    rfl
  refine vW (mZ HT_.out (by kernel_rfl)) ?_
  try go_wp2
  go_ret
  exact ⟨by first | rfl | (simp [iW, iV] <;> rfl) | (simp [*, iW, iV] <;> rfl), hb_⟩
end Go.Proofs.YtgfkgppomaapiaaDoor.K
end

section
namespace Go.Proofs.YtgfkgppomaapiaaDoor.K
open Go.RowKit Go.Proofs.YtgfkgppomaapiaaDoorW.PrintWords Go.Proofs.YtgfkgppomaapiaaDoorW.PrintLast Go.Proofs.YtgfkgppomaapiaaDoorW.PrintMore
attribute [local go_sem] kE kQ
theorem XR (d : Nat) (w : World) (x0 y0 : Int) (x1 y1 : Int) :
    (Op.equalIn (d + 2) 98 (.agg #[.int .i64 x0, .int .i64 x1]) (.agg #[.int .i64 y0, .int .i64 y1])).run Tryd.prog w = .ok (x0 == y0 && (x1 == y1)) w := by
  refine X8 Tryd.underlying98 (by kernel_rfl) ?_
  refine TP (by rfl) (by go_simp; rfl) (by go_simp; rfl) (by go_simp) ?_
  exact U9 (by rfl) (by go_simp; rfl) (by go_simp; rfl) (by go_simp)
end Go.Proofs.YtgfkgppomaapiaaDoor.K
end

section
namespace Go.Proofs.YtgfkgppomaapiaaDoor.K
open Go.RowKit Go.Proofs.YtgfkgppomaapiaaDoorW.PrintWords Go.Proofs.YtgfkgppomaapiaaDoorW.PrintLast Go.Proofs.YtgfkgppomaapiaaDoorW.PrintMore
attribute [local go_sem] kE kQ
attribute [local go_sem high] XR
mutual
def stratumref07_SameMap.j0 : Nat → Bool → Int → List (S98) → Int → List (S98) → Option (Bool)
  | 0, _, _, _, _, _ => none
  | k + 1, x19, x217000, x217001, x218000, x218001 => if x19 = true then (some false) else (stratumref07_SameMap.l0 k 0 x217000 x217001 x218000 x218001)
def stratumref07_SameMap.l0 : Nat → Int → Int → List (S98) → Int → List (S98) → Option (Bool)
  | 0, _, _, _, _, _ => none
  | k + 1, x5, x217000, x217001, x218000, x218001 => if x5 < (x217001.length : Int) then (if 0 ≤ x5 then (if x5 < (x218001.length : Int) then (if (!(((kS x217001 x5).f0) == ((kS x218001 x5).f0)) || (!(((kS x217001 x5).f1) == ((kS x218001 x5).f1)))) = true then (some false) else (stratumref07_SameMap.l0 k (wrap64 (x5 + 1)) x217000 x217001 x218000 x218001)) else (none)) else (none)) else (some true)
end
def stratumref07_SameMap.f (k : Nat) (a0_0 : Int) (l0_1 : List (S98)) (a1_0 : Int) (l1_1 : List (S98)) : Option (Bool) := if a0_0 = a1_0 then (stratumref07_SameMap.j0 k ((l0_1.length : Int) != (l1_1.length : Int)) a0_0 l0_1 a1_0 l1_1) else (stratumref07_SameMap.j0 k true a0_0 l0_1 a1_0 l1_1)
set_option maxHeartbeats 8000000 in
set_option maxRecDepth 100000 in
theorem stratumref07_SameMap.calls (k : Nat) (a0_0 : Int) (A0_1 : Option Addr) (c0_1 : Nat) (l0_1 : List (S98)) (a1_0 : Int) (A1_1 : Option Addr) (c1_1 : Nat) (l1_1 : List (S98)) (r : Bool) (w : World) (hr0_1 : Kd.C k98 w A0_1 l0_1.length l0_1) (hc0_1 : l0_1.length ≤ c0_1) (hr1_1 : Kd.C k98 w A1_1 l1_1.length l1_1) (hc1_1 : l1_1.length ≤ c1_1) (h : stratumref07_SameMap.f k a0_0 l0_1 a1_0 l1_1 = some r) :
    Calls Tryd.prog 77 #[.agg #[.int .u32 a0_0, .slice A0_1 l0_1.length c0_1], .agg #[.int .u32 a1_0, .slice A1_1 l1_1.length c1_1]] w fun e w' => e = .returned (.bool r) ∧ Below w.heap.size w w' := by
  have hu27 := Tryd.underlying27
  have hu98 := Tryd.underlying98
  have HR0_1 := iD.mk hr0_1
  have HC0_1 := iD.mk hc0_1
  clear hr0_1 hc0_1
  have HR1_1 := iD.mk hr1_1
  have HC1_1 := iD.mk hc1_1
  clear hr1_1 hc1_1
  have HB := iD.mk (Below.refl w.heap.size w)
  have H : (if a0_0 = a1_0 then (stratumref07_SameMap.j0 k ((l0_1.length : Int) != (l1_1.length : Int)) a0_0 l0_1 a1_0 l1_1) else (stratumref07_SameMap.j0 k true a0_0 l0_1 a1_0 l1_1)) = some r := h
  clear h
  have HC3 := iD.mk H
  clear H
  go_enter Tryd.func77, Tryd.ntmps77
  go_upto_region 1 with (first | ((with_reducible refine jU (N := 2) rfl ?_); (try (refine kF (by rfl) ?_; dsimp only)); refine jM ?hg (N := 2) ?hd (cs := #[.int .u32 a0_0, .slice A0_1 l0_1.length c0_1]) (t := 27) ?hr ?_; (case hd => rfl); (case hg => rfl); (case hr => first | (go_simp; done) | (go_simp; rfl)); intro gb216 hg w4 hbox hb; have n0_ := iD.mk (iL hb_ hb); have n1_ := iD.mk (hbox); have n2_ := iD.mk ((by rw [hg]; exact (iQ hb_) : w.heap.size ≤ gb216)); have n3_ := iD.mk ((by rw [hg]; exact (iQ hb_) : w.heap.size ≤ gb216)); clear HB; have HB := n0_; have BK216 := n1_; have GW216 := n2_; have GE216 := n3_; clear n0_ n1_ n2_ n3_; clear hb hbox hg) | ((with_reducible refine jU (N := 3) rfl ?_); (try (refine kF (by rfl) ?_; dsimp only)); refine jM ?hg (N := 3) ?hd (cs := #[.int .u32 a1_0, .slice A1_1 l1_1.length c1_1]) (t := 27) ?hr ?_; (case hd => rfl); (case hg => rfl); (case hr => first | (go_simp; done) | (go_simp; rfl)); intro gb217 hg w5 hbox hb; have n0_ := iD.mk (jR (g := gb216) (o := .cells #[.int .u32 a0_0, .slice A0_1 l0_1.length c0_1] 27 (0, 0)) (bk_ BK216.out) hb); have n1_ := iD.mk (iL (by repeat (first | (with_reducible first | exact HB.out | apply iF | apply iG | apply iJ | refine iH ?_ GE216.out) | exact HB.out)) hb); have n2_ := iD.mk (hbox); have n3_ := iD.mk ((by rw [hg]; exact (iQ (by repeat (first | (with_reducible first | exact HB.out | apply iF | apply iG | apply iJ | refine iH ?_ GE216.out) | exact HB.out))) : w.heap.size ≤ gb217)); have n4_ := iD.mk ((by rw [hg]; exact (iQ (by repeat (first | (with_reducible first | exact HB.out | apply iF | apply iG | apply iJ | refine iH ?_ GE216.out) | exact HB.out))) : w.heap.size ≤ gb217)); have n5_ := iD.mk ((by rw [hg]; exact Nat.ne_of_lt (kD (g := gb216) (o := .cells #[.int .u32 a0_0, .slice A0_1 l0_1.length c0_1] 27 (0, 0)) (bk_ BK216.out)) : gb216 ≠ gb217)); have n6_ := iD.mk ((by rw [hg]; exact Nat.ne_of_gt (kD (g := gb216) (o := .cells #[.int .u32 a0_0, .slice A0_1 l0_1.length c0_1] 27 (0, 0)) (bk_ BK216.out)) : gb217 ≠ gb216)); clear BK216; clear HB; have BK216 := n0_; have HB := n1_; have BK217 := n2_; have GW217 := n3_; have GE217 := n4_; have NB216_217 := n5_; have NB217_216 := n6_; clear n0_ n1_ n2_ n3_ n4_ n5_ n6_; clear hb hbox hg))
  repeat (go_quiet (first | ((with_reducible refine jU (N := 2) rfl ?_); (try (refine kF (by rfl) ?_; dsimp only)); refine jM ?hg (N := 2) ?hd (cs := #[.int .u32 a0_0, .slice A0_1 l0_1.length c0_1]) (t := 27) ?hr ?_; (case hd => rfl); (case hg => rfl); (case hr => first | (go_simp; done) | (go_simp; rfl)); intro gb216 hg w4 hbox hb; have n0_ := iD.mk (iL hb_ hb); have n1_ := iD.mk (hbox); have n2_ := iD.mk ((by rw [hg]; exact (iQ hb_) : w.heap.size ≤ gb216)); have n3_ := iD.mk ((by rw [hg]; exact (iQ hb_) : w.heap.size ≤ gb216)); clear HB; have HB := n0_; have BK216 := n1_; have GW216 := n2_; have GE216 := n3_; clear n0_ n1_ n2_ n3_; clear hb hbox hg) | ((with_reducible refine jU (N := 3) rfl ?_); (try (refine kF (by rfl) ?_; dsimp only)); refine jM ?hg (N := 3) ?hd (cs := #[.int .u32 a1_0, .slice A1_1 l1_1.length c1_1]) (t := 27) ?hr ?_; (case hd => rfl); (case hg => rfl); (case hr => first | (go_simp; done) | (go_simp; rfl)); intro gb217 hg w5 hbox hb; have n0_ := iD.mk (jR (g := gb216) (o := .cells #[.int .u32 a0_0, .slice A0_1 l0_1.length c0_1] 27 (0, 0)) (bk_ BK216.out) hb); have n1_ := iD.mk (iL (by repeat (first | (with_reducible first | exact HB.out | apply iF | apply iG | apply iJ | refine iH ?_ GE216.out) | exact HB.out)) hb); have n2_ := iD.mk (hbox); have n3_ := iD.mk ((by rw [hg]; exact (iQ (by repeat (first | (with_reducible first | exact HB.out | apply iF | apply iG | apply iJ | refine iH ?_ GE216.out) | exact HB.out))) : w.heap.size ≤ gb217)); have n4_ := iD.mk ((by rw [hg]; exact (iQ (by repeat (first | (with_reducible first | exact HB.out | apply iF | apply iG | apply iJ | refine iH ?_ GE216.out) | exact HB.out))) : w.heap.size ≤ gb217)); have n5_ := iD.mk ((by rw [hg]; exact Nat.ne_of_lt (kD (g := gb216) (o := .cells #[.int .u32 a0_0, .slice A0_1 l0_1.length c0_1] 27 (0, 0)) (bk_ BK216.out)) : gb216 ≠ gb217)); have n6_ := iD.mk ((by rw [hg]; exact Nat.ne_of_gt (kD (g := gb216) (o := .cells #[.int .u32 a0_0, .slice A0_1 l0_1.length c0_1] 27 (0, 0)) (bk_ BK216.out)) : gb217 ≠ gb216)); clear BK216; clear HB; have BK216 := n0_; have HB := n1_; have BK217 := n2_; have GW217 := n3_; have GE217 := n4_; have NB216_217 := n5_; have NB217_216 := n6_; clear n0_ n1_ n2_ n3_ n4_ n5_ n6_; clear hb hbox hg)); go_upto_region 1 with (first | ((with_reducible refine jU (N := 2) rfl ?_); (try (refine kF (by rfl) ?_; dsimp only)); refine jM ?hg (N := 2) ?hd (cs := #[.int .u32 a0_0, .slice A0_1 l0_1.length c0_1]) (t := 27) ?hr ?_; (case hd => rfl); (case hg => rfl); (case hr => first | (go_simp; done) | (go_simp; rfl)); intro gb216 hg w4 hbox hb; have n0_ := iD.mk (iL hb_ hb); have n1_ := iD.mk (hbox); have n2_ := iD.mk ((by rw [hg]; exact (iQ hb_) : w.heap.size ≤ gb216)); have n3_ := iD.mk ((by rw [hg]; exact (iQ hb_) : w.heap.size ≤ gb216)); clear HB; have HB := n0_; have BK216 := n1_; have GW216 := n2_; have GE216 := n3_; clear n0_ n1_ n2_ n3_; clear hb hbox hg) | ((with_reducible refine jU (N := 3) rfl ?_); (try (refine kF (by rfl) ?_; dsimp only)); refine jM ?hg (N := 3) ?hd (cs := #[.int .u32 a1_0, .slice A1_1 l1_1.length c1_1]) (t := 27) ?hr ?_; (case hd => rfl); (case hg => rfl); (case hr => first | (go_simp; done) | (go_simp; rfl)); intro gb217 hg w5 hbox hb; have n0_ := iD.mk (jR (g := gb216) (o := .cells #[.int .u32 a0_0, .slice A0_1 l0_1.length c0_1] 27 (0, 0)) (bk_ BK216.out) hb); have n1_ := iD.mk (iL (by repeat (first | (with_reducible first | exact HB.out | apply iF | apply iG | apply iJ | refine iH ?_ GE216.out) | exact HB.out)) hb); have n2_ := iD.mk (hbox); have n3_ := iD.mk ((by rw [hg]; exact (iQ (by repeat (first | (with_reducible first | exact HB.out | apply iF | apply iG | apply iJ | refine iH ?_ GE216.out) | exact HB.out))) : w.heap.size ≤ gb217)); have n4_ := iD.mk ((by rw [hg]; exact (iQ (by repeat (first | (with_reducible first | exact HB.out | apply iF | apply iG | apply iJ | refine iH ?_ GE216.out) | exact HB.out))) : w.heap.size ≤ gb217)); have n5_ := iD.mk ((by rw [hg]; exact Nat.ne_of_lt (kD (g := gb216) (o := .cells #[.int .u32 a0_0, .slice A0_1 l0_1.length c0_1] 27 (0, 0)) (bk_ BK216.out)) : gb216 ≠ gb217)); have n6_ := iD.mk ((by rw [hg]; exact Nat.ne_of_gt (kD (g := gb216) (o := .cells #[.int .u32 a0_0, .slice A0_1 l0_1.length c0_1] 27 (0, 0)) (bk_ BK216.out)) : gb217 ≠ gb216)); clear BK216; clear HB; have BK216 := n0_; have HB := n1_; have BK217 := n2_; have GW217 := n3_; have GE217 := n4_; have NB216_217 := n5_; have NB217_216 := n6_; clear n0_ n1_ n2_ n3_ n4_ n5_ n6_; clear hb hbox hg)))
  (try simp only [Act.put, List.setIfInBounds_toArray, List.set_cons_zero, List.set_cons_succ])
  go_cut [19] (fun v19 wc => ∃ (kq : Nat) (x19_2 : Bool), v19 = .bool x19_2 ∧ iD (stratumref07_SameMap.j0 kq x19_2 a0_0 l0_1 a1_0 l1_1 = some r) ∧ iD (kq ≤ k) ∧ iD (wc.heap[gb216]? = some (.cells #[.int .u32 a0_0, (.slice A0_1 l0_1.length c0_1)] 27 (0, 0))) ∧ iD (wc.heap[gb217]? = some (.cells #[.int .u32 a1_0, (.slice A1_1 l1_1.length c1_1)] 27 (0, 0))) ∧ iD (Below w.heap.size w wc))
  case first =>
    have H := HC3.out
    clear HC3
    by_cases c6 : a0_0 = a1_0
    · rw [if_pos c6] at H
      have c6b0 : (a0_0 == a1_0) = true := beq_iff_eq.mpr c6
      have c6b1 : (a0_0 != a1_0) = false := bne_eq_false_iff_eq.mpr c6
      clear c6
      (first | rw [c6b0] | (simp only [iP, iY]; rw [c6b0]) | skip)
      have H' := iD.mk H
      clear H
      have hnb7 := NB216_217.out
      have hnc7 := NB217_216.out
      have hcz8_0 : w5.cell? ⟨gb216, 0, none⟩ = some (.int .u32 a0_0) := (iE BK216.out 0).trans rfl
      have hcz8_1 : w5.cell? ⟨gb216, 1, none⟩ = some (.slice A0_1 l0_1.length c0_1) := (iE BK216.out 1).trans rfl
      have hfz8_0 := iC BK216.out 0
      have hfz8_1 := iC BK216.out 1
      have hcz9_0 : w5.cell? ⟨gb217, 0, none⟩ = some (.int .u32 a1_0) := (iE BK217.out 0).trans rfl
      have hcz9_1 : w5.cell? ⟨gb217, 1, none⟩ = some (.slice A1_1 l1_1.length c1_1) := (iE BK217.out 1).trans rfl
      have hfz9_0 := iC BK217.out 0
      have hfz9_1 := iC BK217.out 1
      go_wp2
      repeat (go_quiet (fail); try go_wp2)
      go_meet
      case rel => exact ⟨_, (((l0_1.length : Int) != (l1_1.length : Int))), (by first | rfl | (simp; done) | (simp [*]; done)), H', ⟨by first | omega | exact Nat.le_refl _⟩, ⟨bk_ BK216.out⟩, ⟨bk_ BK217.out⟩, ⟨by repeat (first | (with_reducible first | exact HB.out | apply iF | apply iG | apply iJ | refine iH ?_ GE216.out | refine iH ?_ GE217.out) | exact HB.out)⟩⟩
    · rw [if_neg c6] at H
      have c6b0 : (a0_0 == a1_0) = false := beq_eq_false_iff_ne.mpr c6
      have c6b1 : (a0_0 != a1_0) = true := bne_iff_ne.mpr c6
      (first | rw [c6b0] | (simp only [iP, iY]; rw [c6b0]) | skip)
      have H' := iD.mk H
      clear H
      have hnb10 := NB216_217.out
      have hnc10 := NB217_216.out
      have hcz11_0 : w5.cell? ⟨gb216, 0, none⟩ = some (.int .u32 a0_0) := (iE BK216.out 0).trans rfl
      have hcz11_1 : w5.cell? ⟨gb216, 1, none⟩ = some (.slice A0_1 l0_1.length c0_1) := (iE BK216.out 1).trans rfl
      have hfz11_0 := iC BK216.out 0
      have hfz11_1 := iC BK216.out 1
      have hcz12_0 : w5.cell? ⟨gb217, 0, none⟩ = some (.int .u32 a1_0) := (iE BK217.out 0).trans rfl
      have hcz12_1 : w5.cell? ⟨gb217, 1, none⟩ = some (.slice A1_1 l1_1.length c1_1) := (iE BK217.out 1).trans rfl
      have hfz12_0 := iC BK217.out 0
      have hfz12_1 := iC BK217.out 1
      go_wp2
      repeat (go_quiet (fail); try go_wp2)
      go_meet
      case rel => exact ⟨_, (true), (by first | rfl | (simp; done) | (simp [*]; done)), H', ⟨by first | omega | exact Nat.le_refl _⟩, ⟨bk_ BK216.out⟩, ⟨bk_ BK217.out⟩, ⟨by repeat (first | (with_reducible first | exact HB.out | apply iF | apply iG | apply iJ | refine iH ?_ GE216.out | refine iH ?_ GE217.out) | exact HB.out)⟩⟩
  case rest =>
    clear HC3
    try clear c1
    try clear p2
    try clear c6
    try clear c6b0
    try clear c6b1
    try clear c7
    try clear c10
    try clear hcz11_0
    try clear hcz11_1
    try clear hcz12_0
    try clear hcz12_1
    try clear hcz8_0
    try clear hcz8_1
    try clear hcz9_0
    try clear hcz9_1
    try clear hfz11_0
    try clear hfz11_1
    try clear hfz12_0
    try clear hfz12_1
    try clear hfz8_0
    try clear hfz8_1
    try clear hfz9_0
    try clear hfz9_1
    obtain ⟨kq, x19_2, rfl, HA, HJ2, BK216, BK217, HB⟩ := hcut
    cases kq with
    | zero => exact absurd HA.out (by simp [stratumref07_SameMap.j0])
    | succ kj2 =>
      have H := HA.out
      clear HA
      simp only [stratumref07_SameMap.j0] at H
      by_cases c13 : x19_2 = true
      · subst c13
        have H1 : (some false) = some r := by rw [if_pos rfl] at H; exact H
        clear H
        have H := H1
        clear H1
        obtain rfl := Option.some.inj H
        go_wp2
        repeat (go_quiet (fail); try go_wp2)
        go_ret
        exact ⟨by first | rfl | (simp [iW, iV] <;> rfl) | (simp [*, iW, iV] <;> rfl), by repeat (first | (with_reducible first | exact HB.out | apply iF | apply iG | apply iJ | refine iH ?_ GE216.out | refine iH ?_ GE217.out) | exact HB.out)⟩
      · replace c13 := Bool.eq_false_iff.mpr c13
        subst c13
        have H1 : (stratumref07_SameMap.l0 kj2 0 a0_0 l0_1 a1_0 l1_1) = some r := by rw [if_neg (show ¬ (false = true) by decide)] at H; exact H
        clear H
        have H := H1
        clear H1
        have H' := iD.mk H
        clear H
        go_wp2
        repeat (go_quiet (fail); try go_wp2)
        go_loopg [5] kj2 (fun kq v5 w' => ∃ (x5_2 : Int), v5 = .int .i64 x5_2 ∧ iD (stratumref07_SameMap.l0 kq x5_2 a0_0 l0_1 a1_0 l1_1 = some r) ∧ iD (kq ≤ kj2) ∧ iD (w'.heap[gb216]? = some (.cells #[.int .u32 a0_0, (.slice A0_1 l0_1.length c0_1)] 27 (0, 0))) ∧ iD (w'.heap[gb217]? = some (.cells #[.int .u32 a1_0, (.slice A1_1 l1_1.length c1_1)] 27 (0, 0))) ∧ iD (Below w.heap.size w w'))
        case atStart => exact ⟨(0), (by first | rfl | (simp; done) | (simp [*]; done)), H', ⟨Nat.le_refl _⟩, ⟨bk_ BK216.out⟩, ⟨bk_ BK217.out⟩, ⟨by repeat (first | (with_reducible first | exact HB.out | apply iF | apply iG | apply iJ | refine iH ?_ GE216.out | refine iH ?_ GE217.out) | exact HB.out)⟩⟩
        case round =>
          clear H'
          try clear c1
          try clear p2
          try clear c6
          try clear c6b0
          try clear c6b1
          try clear c7
          try clear c10
          try clear c13
          try clear hcz11_0
          try clear hcz11_1
          try clear hcz12_0
          try clear hcz12_1
          try clear hcz8_0
          try clear hcz8_1
          try clear hcz9_0
          try clear hcz9_1
          try clear hfz11_0
          try clear hfz11_1
          try clear hfz12_0
          try clear hfz12_1
          try clear hfz8_0
          try clear hfz8_1
          try clear hfz9_0
          try clear hfz9_1
          try clear p2
          obtain ⟨x5_2, rfl, HA, HK2, BK216, BK217, HB⟩ := hrel
          cases gk with
          | zero => exact absurd HA.out (by simp [stratumref07_SameMap.l0])
          | succ k2 =>
            have H := HA.out
            clear HA
            simp only [stratumref07_SameMap.l0] at H
            by_cases c14 : x5_2 < (l0_1.length : Int)
            · rw [if_pos c14] at H
              have c14b0 : decide (x5_2 < (l0_1.length : Int)) = true := decide_eq_true c14
              clear c14
              by_cases c15 : 0 ≤ x5_2
              · rw [if_pos c15] at H
                have c15b0 : decide (0 ≤ x5_2) = true := decide_eq_true c15
                clear c15
                by_cases c16 : x5_2 < (l1_1.length : Int)
                · rw [if_pos c16] at H
                  have c16b0 : decide (x5_2 < (l1_1.length : Int)) = true := decide_eq_true c16
                  clear c16
                  by_cases c17 : (!(((kS l0_1 x5_2).f0) == ((kS l1_1 x5_2).f0)) || (!(((kS l0_1 x5_2).f1) == ((kS l1_1 x5_2).f1)))) = true
                  · rw [if_pos c17] at H
                    have c17b0 : (!(((kS l0_1 x5_2).f0) == ((kS l1_1 x5_2).f0)) || (!(((kS l0_1 x5_2).f1) == ((kS l1_1 x5_2).f1)))) = true := c17
                    clear c17
                    obtain rfl := Option.some.inj H
                    have hnb18 := NB216_217.out
                    have hnc18 := NB217_216.out
                    have hcz19_0 : wr.cell? ⟨gb216, 0, none⟩ = some (.int .u32 a0_0) := (iE BK216.out 0).trans rfl
                    have hcz19_1 : wr.cell? ⟨gb216, 1, none⟩ = some (.slice A0_1 l0_1.length c0_1) := (iE BK216.out 1).trans rfl
                    have hfz19_0 := iC BK216.out 0
                    have hfz19_1 := iC BK216.out 1
                    have p218 : 0 ≤ (x5_2 : Int) := of_decide_eq_true asm_
                    have q218 : x5_2 < (l0_1.length : Int) := of_decide_eq_true asm_
                    obtain ⟨ad218, e218, hx218_0, hx218_1⟩ := xE HR0_1.out x5_2 p218 q218
                    cases e218
                    replace hx218_0 := (HB.out.cell (World.block_lt_of_cell? w _ hx218_0)).trans hx218_0
                    replace hx218_1 := (HB.out.cell (World.block_lt_of_cell? w _ hx218_1)).trans hx218_1
                    replace p218 := eq_true p218
                    replace q218 := eq_true q218
                    have hcz20_0 : wr.cell? ⟨gb217, 0, none⟩ = some (.int .u32 a1_0) := (iE BK217.out 0).trans rfl
                    have hcz20_1 : wr.cell? ⟨gb217, 1, none⟩ = some (.slice A1_1 l1_1.length c1_1) := (iE BK217.out 1).trans rfl
                    have hfz20_0 := iC BK217.out 0
                    have hfz20_1 := iC BK217.out 1
                    have p219 : 0 ≤ (x5_2 : Int) := of_decide_eq_true asm_
                    have q219 : x5_2 < (l1_1.length : Int) := of_decide_eq_true asm_
                    obtain ⟨ad219, e219, hx219_0, hx219_1⟩ := xE HR1_1.out x5_2 p219 q219
                    cases e219
                    replace hx219_0 := (HB.out.cell (World.block_lt_of_cell? w _ hx219_0)).trans hx219_0
                    replace hx219_1 := (HB.out.cell (World.block_lt_of_cell? w _ hx219_1)).trans hx219_1
                    replace p219 := eq_true p219
                    replace q219 := eq_true q219
                    go_wp2
                    repeat (go_quiet (fail); try go_wp2)
                    go_ret
                    exact ⟨by first | rfl | (simp [iW, iV] <;> rfl) | (simp [*, iW, iV] <;> rfl), by repeat (first | (with_reducible first | exact HB.out | apply iF | apply iG | apply iJ | refine iH ?_ GE216.out | refine iH ?_ GE217.out) | exact HB.out)⟩
                  · rw [if_neg c17] at H
                    have c17b0 : (!(((kS l0_1 x5_2).f0) == ((kS l1_1 x5_2).f0)) || (!(((kS l0_1 x5_2).f1) == ((kS l1_1 x5_2).f1)))) = false := by simpa using c17
                    clear c17
                    have H' := iD.mk H
                    clear H
                    have hnb21 := NB216_217.out
                    have hnc21 := NB217_216.out
                    have hcz22_0 : wr.cell? ⟨gb216, 0, none⟩ = some (.int .u32 a0_0) := (iE BK216.out 0).trans rfl
                    have hcz22_1 : wr.cell? ⟨gb216, 1, none⟩ = some (.slice A0_1 l0_1.length c0_1) := (iE BK216.out 1).trans rfl
                    have hfz22_0 := iC BK216.out 0
                    have hfz22_1 := iC BK216.out 1
                    have p218 : 0 ≤ (x5_2 : Int) := of_decide_eq_true asm_
                    have q218 : x5_2 < (l0_1.length : Int) := of_decide_eq_true asm_
                    obtain ⟨ad218, e218, hx218_0, hx218_1⟩ := xE HR0_1.out x5_2 p218 q218
                    cases e218
                    replace hx218_0 := (HB.out.cell (World.block_lt_of_cell? w _ hx218_0)).trans hx218_0
                    replace hx218_1 := (HB.out.cell (World.block_lt_of_cell? w _ hx218_1)).trans hx218_1
                    replace p218 := eq_true p218
                    replace q218 := eq_true q218
                    have hcz23_0 : wr.cell? ⟨gb217, 0, none⟩ = some (.int .u32 a1_0) := (iE BK217.out 0).trans rfl
                    have hcz23_1 : wr.cell? ⟨gb217, 1, none⟩ = some (.slice A1_1 l1_1.length c1_1) := (iE BK217.out 1).trans rfl
                    have hfz23_0 := iC BK217.out 0
                    have hfz23_1 := iC BK217.out 1
                    have p219 : 0 ≤ (x5_2 : Int) := of_decide_eq_true asm_
                    have q219 : x5_2 < (l1_1.length : Int) := of_decide_eq_true asm_
                    obtain ⟨ad219, e219, hx219_0, hx219_1⟩ := xE HR1_1.out x5_2 p219 q219
                    cases e219
                    replace hx219_0 := (HB.out.cell (World.block_lt_of_cell? w _ hx219_0)).trans hx219_0
                    replace hx219_1 := (HB.out.cell (World.block_lt_of_cell? w _ hx219_1)).trans hx219_1
                    replace p219 := eq_true p219
                    replace q219 := eq_true q219
                    go_wp2
                    repeat (go_quiet (fail); try go_wp2)
                    go_roundg k2
                    case measure => have := HJ2.out; have := HK2.out; omega
                    case rel => exact ⟨(wrap64 (x5_2 + 1)), (by first | rfl | (simp; done) | (simp [*]; done)), H', ⟨by have := HJ2.out; have := HK2.out; omega⟩, ⟨bk_ BK216.out⟩, ⟨bk_ BK217.out⟩, ⟨by repeat (first | (with_reducible first | exact HB.out | apply iF | apply iG | apply iJ | refine iH ?_ GE216.out | refine iH ?_ GE217.out) | exact HB.out)⟩⟩
                · rw [if_neg c16] at H
                  exact absurd H (by simp)
              · rw [if_neg c15] at H
                exact absurd H (by simp)
            · rw [if_neg c14] at H
              have c14b0 : decide (x5_2 < (l0_1.length : Int)) = false := decide_eq_false c14
              clear c14
              obtain rfl := Option.some.inj H
              have hnb24 := NB216_217.out
              have hnc24 := NB217_216.out
              have hcz25_0 : wr.cell? ⟨gb216, 0, none⟩ = some (.int .u32 a0_0) := (iE BK216.out 0).trans rfl
              have hcz25_1 : wr.cell? ⟨gb216, 1, none⟩ = some (.slice A0_1 l0_1.length c0_1) := (iE BK216.out 1).trans rfl
              have hfz25_0 := iC BK216.out 0
              have hfz25_1 := iC BK216.out 1
              go_wp2
              repeat (go_quiet (fail); try go_wp2)
              go_ret
              exact ⟨by first | rfl | (simp [iW, iV] <;> rfl) | (simp [*, iW, iV] <;> rfl), by repeat (first | (with_reducible first | exact HB.out | apply iF | apply iG | apply iJ | refine iH ?_ GE216.out | refine iH ?_ GE217.out) | exact HB.out)⟩
end Go.Proofs.YtgfkgppomaapiaaDoor.K
end

section
namespace Go.Proofs.YtgfkgppomaapiaaDoor.K
open Go.RowKit Go.Proofs.YtgfkgppomaapiaaDoorW.PrintWords Go.Proofs.YtgfkgppomaapiaaDoorW.PrintLast Go.Proofs.YtgfkgppomaapiaaDoorW.PrintMore
attribute [local go_sem] kE kQ
def stratumref07_SameEntries.f (l0 : List (S86)) (l1 : List (S86)) : Option (Bool) := (stratumref07_Entries.f ([] : List Int) l0).bind fun t220 => ((stratumref07_Entries.f ([] : List Int) l1).bind fun t223 => (some ((strOfNums t220).toList == (strOfNums t223).toList)))
def stratumref07_SameEntries.T1 : Bool × List (List Nat × List Nat) := (true, [([], []), ([0], [0]), ([1], [1]), ([], []), ([3, 1], [3]), ([4], [4]), ([2, 5], [2, 5]), ([6, 4, 0, 1, 2, 3, 4, 5, 6], [6])])
def stratumref07_SameEntries.B1 : List Nat := [0, 1, 3, 0, 11, 27, 63, 127]
theorem stratumref07_SameEntries.tab1 : rtab .any (opsOf Tryd.f78 1) = stratumref07_SameEntries.T1 := by kernel_rfl
theorem stratumref07_SameEntries.bits1 : lK stratumref07_SameEntries.T1.2 stratumref07_SameEntries.B1 = true := by kernel_rfl
set_option maxHeartbeats 8000000 in
set_option maxRecDepth 100000 in
theorem stratumref07_SameEntries.calls (A0 : Option Addr) (c0 : Nat) (l0 : List (S86)) (A1 : Option Addr) (c1 : Nat) (l1 : List (S86)) (r : Bool) (w : World) (hr0 : Kd.C k86 w A0 l0.length l0) (hc0 : l0.length ≤ c0) (hr1 : Kd.C k86 w A1 l1.length l1) (hc1 : l1.length ≤ c1) (h : stratumref07_SameEntries.f l0 l1 = some r) :
    Calls Tryd.prog 78 #[.slice A0 l0.length c0, .slice A1 l1.length c1] w fun e w' => e = .returned (.bool r) ∧ Below w.heap.size w w' := by
  have HR0 := iD.mk hr0
  have HC0 := iD.mk hc0
  clear hr0 hc0
  have HR1 := iD.mk hr1
  have HC1 := iD.mk hc1
  clear hr1 hc1
  have HB := iD.mk (Below.refl w.heap.size w)
  have H : ((stratumref07_Entries.f ([] : List Int) l0).bind fun t220 => ((stratumref07_Entries.f ([] : List Int) l1).bind fun t223 => (some ((strOfNums t220).toList == (strOfNums t223).toList)))) = some r := h
  clear h
  replace H := Option.bind_eq_some_iff.mp H
  obtain ⟨t220, A30, H⟩ := H
  replace H : ((stratumref07_Entries.f ([] : List Int) l1).bind fun t223 => (some ((strOfNums t220).toList == (strOfNums t223).toList))) = some r := H
  have A3 := iD.mk A30
  clear A30
  replace H := Option.bind_eq_some_iff.mp H
  obtain ⟨t223, A40, H⟩ := H
  replace H : (some ((strOfNums t220).toList == (strOfNums t223).toList)) = some r := H
  have A4 := iD.mk A40
  clear A40
  obtain rfl := Option.some.inj H
  go_enter Tryd.func78, Tryd.ntmps78
  try go_wp2
  have n0_ := iD.mk (iJ HB.out)
  clear HB
  have HB := n0_
  clear n0_
  refine nZ (n := 8) (S := fun w' => True) (ds := []) #[false, false, false, false, false, false, false, false] (by kernel_rfl) rfl rfl trivial (fun hHeld => ?_); refine lD stratumref07_SameEntries.tab1 stratumref07_SameEntries.bits1 (fun HT_ HW_ => ?_)
  generalize w.drew = w5 at HB hHeld ⊢
  refine jF (i := 0) (N := some 5) (v := ?_) (a' := ?_) #[true, false, false, false, false, false, false, false] rfl rfl (iZ HT_.out (by kernel_rfl)) (fun _ _ _ h => h) (Or.inl ⟨by rfl, ?_⟩) ?_ ?_
  rotate_left
  · intro w'
    go_simp
    with_reducible rfl
  rotate_left
  · simp only [Act.put, List.setIfInBounds_toArray, List.set_cons_zero, List.set_cons_succ, iP, iY]
    rfl
  refine jF (i := 3) (N := some 8) (v := ?_) (a' := ?_) #[true, false, false, true, false, false, false, false] rfl rfl (iZ HT_.out (by kernel_rfl)) (fun _ _ _ h => h) (Or.inl ⟨by rfl, ?_⟩) ?_ ?_
  rotate_left
  · intro w'
    go_simp
    with_reducible rfl
  rotate_left
  · simp only [Act.put, List.setIfInBounds_toArray, List.set_cons_zero, List.set_cons_succ, iP, iY]
    rfl
  refine one_ (i := 1) (N := some 6) #[true, true, false, true, false, false, false, false] rfl rfl (kU HT_.out (by kernel_rfl)) (by decide) (fun K hK => ?_)
  refine pW Tryd.func60 (by kernel_rfl) rfl #[.slice none 0 0, .slice A0 l0.length c0] (by rfl) rfl rfl (by (try simp only [List.map_toArray, List.map_cons, List.map_nil]); first | done | rfl | (simp only [List.length_drop, List.length_take]; rfl)) ?_
  refine (stratumref07_Entries.calls0 _ _ l0 t220 _ ?side1 ?side2 ?side3 ?side4 A3.out).mono ?_
  (case side1 => exact Kd.C_nil _ _)
  (case side2 => exact Nat.le_refl _)
  (case side3 => repeat (first | exact (Kd.C_below HR0.out HB.out) | (with_reducible refine Kd.C_alloc ?_ _) | (with_reducible refine Kd.C_drewN ?_ _) | (with_reducible refine Kd.C_drew ?_)))
  (case side4 => exact HC0.out)
  rintro e w6 ⟨v221, rfl, ho0, hb⟩
  refine ⟨_, rfl, ?_⟩
  have n0_ := iD.mk (Kd.R_lower ho0 (iQ hb_))
  have n1_ := iD.mk (iL hb_ hb)
  clear HB
  have HO222 := n0_
  have HB := n1_
  clear n0_ n1_
  (try clear hb)
  (try clear hb2)
  (try clear hk)
  (try clear hi)
  (try clear ho0)
  refine hK.out _ _ trivial (fun hHeld => ?_)
  clear hK K
  refine kY (a' := ?_) ?_ ?_
  rotate_left
  · show Act.put _ (some 6) _ = _
    simp only [Act.put, List.setIfInBounds_toArray, List.set_cons_zero, List.set_cons_succ, iP, iY]
    rfl
  refine XJ (σ := Value) 2 #[true, true, true, true, true, true, false, false] (fun s_ => [(7, .string (strOfNums t220)), (9, s_), (10, .string (strOfNums t223))]) (fun s_ w' => (Kd.R (Kd.int .u8) 5 w' w.heap.size (fun k_ => some k_ ≠ (s_ : Value).ownBlock) v221 t220) ∧ (Kd.R (Kd.int .u8) 5 w' w.heap.size (fun k_ => some k_ ≠ (v221 : Value).ownBlock) s_ t223) ∧ (Below w.heap.size w w')) ?_ ?_
  rotate_left
  · intro hCont
    refine two_ (i := 2) (j := 4) (Ni := some 7) (Nj := some 9) #[true, true, true, true, false, false, false, false] #[true, true, false, true, true, false, false, false] rfl rfl rfl rfl (MX HT_.out (by kernel_rfl)) (by decide) (by decide) (fun K hK => ?_) (fun K hK => ?_)
    · skip
      have hcv7 := kM (P := Tryd.prog) Tryd.underlying33 Tryd.underlying5 Tryd.underlying9 (Kd.own_of_R HO222.out)
      refine jQ (w1 := ?_) (v := ?_) (by rfl) rfl ?_ ?_
      rotate_left 2
      · go_simp
        constructor
        · rfl
        · rfl
      clear hcv7
      refine hK.out _ _ trivial (fun hHeld => ?_)
      clear hK K
      refine kY (a' := ?_) ?_ ?_
      rotate_left
      · show Act.put _ (some 7) _ = _
        simp only [Act.put, List.setIfInBounds_toArray, List.set_cons_zero, List.set_cons_succ, iP, iY]
        rfl
      refine one_ (i := 4) (N := some 9) #[true, true, true, true, true, false, false, false] rfl rfl (kU HT_.out (by kernel_rfl)) (by decide) (fun K hK => ?_)
      refine pW Tryd.func60 (by kernel_rfl) rfl #[.slice none 0 0, .slice A1 l1.length c1] (by rfl) rfl rfl (by (try simp only [List.map_toArray, List.map_cons, List.map_nil]); first | done | rfl | (simp only [List.length_drop, List.length_take]; rfl)) ?_
      refine (stratumref07_Entries.calls0 _ _ l1 t223 _ ?side1 ?side2 ?side3 ?side4 A4.out).mono ?_
      (case side1 => exact Kd.C_nil _ _)
      (case side2 => exact Nat.le_refl _)
      (case side3 => repeat (first | exact (Kd.C_below HR1.out HB.out) | (with_reducible refine Kd.C_alloc ?_ _) | (with_reducible refine Kd.C_drewN ?_ _) | (with_reducible refine Kd.C_drew ?_)))
      (case side4 => exact HC1.out)
      rintro e w8 ⟨v224, rfl, ho0, hb⟩
      refine ⟨_, rfl, ?_⟩
      have n0_ := iD.mk (Kd.R_elder' (by (with_reducible repeat (first | apply Kd.R_alloc | apply Kd.R_drewN | apply Kd.R_drew)); exact HO222.out) (Kd.R_base ho0) hb)
      have n1_ := iD.mk (Kd.R_lower (Kd.R_new' ho0 (Kd.R_lt (by (with_reducible repeat (first | apply Kd.R_alloc | apply Kd.R_drewN | apply Kd.R_drew)); exact HO222.out))) (iQ hb_))
      have n2_ := iD.mk (iL hb_ hb)
      clear HO222
      clear HB
      have HO222 := n0_
      have HO225 := n1_
      have HB := n2_
      clear n0_ n1_ n2_
      (try clear hb)
      (try clear hb2)
      (try clear hk)
      (try clear hi)
      (try clear ho0)
      refine hK.out _ _ trivial (fun hHeld => ?_)
      clear hK K
      refine kY (a' := ?_) ?_ ?_
      rotate_left
      · show Act.put _ (some 9) _ = _
        simp only [Act.put, List.setIfInBounds_toArray, List.set_cons_zero, List.set_cons_succ, iP, iY]
        rfl
      refine one_ (i := 5) (N := some 10) #[true, true, true, true, true, true, false, false] rfl rfl (kU HT_.out (by kernel_rfl)) (by decide) (fun K hK => ?_)
      have hcv9 := kM (P := Tryd.prog) Tryd.underlying33 Tryd.underlying5 Tryd.underlying9 (Kd.own_of_R HO225.out)
      refine jQ (w1 := ?_) (v := ?_) (by rfl) rfl ?_ ?_
      rotate_left 2
      · go_simp
        constructor
        · rfl
        · rfl
      clear hcv9
      refine hK.out _ _ trivial (fun hHeld => ?_)
      clear hK K
      refine kY (a' := ?_) ?_ ?_
      rotate_left
      · show Act.put _ (some 10) _ = _
        simp only [Act.put, List.setIfInBounds_toArray, List.set_cons_zero, List.set_cons_succ, iP, iY]
        rfl
      exact kY (by simp only [pY, Act.put, List.setIfInBounds_toArray, List.set_cons_zero, List.set_cons_succ]) (hCont (v224) _ ⟨(by (with_reducible repeat (first | apply Kd.R_alloc | apply Kd.R_drewN | apply Kd.R_drew)); exact Kd.R_mono HO222.out (fun _ hk => hk.2)), (by (with_reducible repeat (first | apply Kd.R_alloc | apply Kd.R_drewN | apply Kd.R_drew)); exact Kd.R_mono HO225.out (fun _ hk => hk.2)), hb_⟩)
    · skip
      refine pW Tryd.func60 (by kernel_rfl) rfl #[.slice none 0 0, .slice A1 l1.length c1] (by rfl) rfl rfl (by (try simp only [List.map_toArray, List.map_cons, List.map_nil]); first | done | rfl | (simp only [List.length_drop, List.length_take]; rfl)) ?_
      refine (stratumref07_Entries.calls0 _ _ l1 t223 _ ?side1 ?side2 ?side3 ?side4 A4.out).mono ?_
      (case side1 => exact Kd.C_nil _ _)
      (case side2 => exact Nat.le_refl _)
      (case side3 => repeat (first | exact (Kd.C_below HR1.out HB.out) | (with_reducible refine Kd.C_alloc ?_ _) | (with_reducible refine Kd.C_drewN ?_ _) | (with_reducible refine Kd.C_drew ?_)))
      (case side4 => exact HC1.out)
      rintro e w7 ⟨v224, rfl, ho0, hb⟩
      refine ⟨_, rfl, ?_⟩
      have n0_ := iD.mk (Kd.R_elder' (by (with_reducible repeat (first | apply Kd.R_alloc | apply Kd.R_drewN | apply Kd.R_drew)); exact HO222.out) (Kd.R_base ho0) hb)
      have n1_ := iD.mk (Kd.R_lower (Kd.R_new' ho0 (Kd.R_lt (by (with_reducible repeat (first | apply Kd.R_alloc | apply Kd.R_drewN | apply Kd.R_drew)); exact HO222.out))) (iQ hb_))
      have n2_ := iD.mk (iL hb_ hb)
      clear HO222
      clear HB
      have HO222 := n0_
      have HO225 := n1_
      have HB := n2_
      clear n0_ n1_ n2_
      (try clear hb)
      (try clear hb2)
      (try clear hk)
      (try clear hi)
      (try clear ho0)
      refine hK.out _ _ trivial (fun hHeld => ?_)
      clear hK K
      refine kY (a' := ?_) ?_ ?_
      rotate_left
      · show Act.put _ (some 9) _ = _
        simp only [Act.put, List.setIfInBounds_toArray, List.set_cons_zero, List.set_cons_succ, iP, iY]
        rfl
      refine two_ (i := 2) (j := 5) (Ni := some 7) (Nj := some 10) #[true, true, true, true, true, false, false, false] #[true, true, false, true, true, true, false, false] rfl rfl rfl rfl (MX HT_.out (by kernel_rfl)) (by decide) (by decide) (fun K hK => ?_) (fun K hK => ?_)
      · skip
        have hcv8 := kM (P := Tryd.prog) Tryd.underlying33 Tryd.underlying5 Tryd.underlying9 (Kd.own_of_R HO222.out)
        refine jQ (w1 := ?_) (v := ?_) (by rfl) rfl ?_ ?_
        rotate_left 2
        · go_simp
          constructor
          · rfl
          · rfl
        clear hcv8
        refine hK.out _ _ trivial (fun hHeld => ?_)
        clear hK K
        refine kY (a' := ?_) ?_ ?_
        rotate_left
        · show Act.put _ (some 7) _ = _
          simp only [Act.put, List.setIfInBounds_toArray, List.set_cons_zero, List.set_cons_succ, iP, iY]
          rfl
        refine one_ (i := 5) (N := some 10) #[true, true, true, true, true, true, false, false] rfl rfl (kU HT_.out (by kernel_rfl)) (by decide) (fun K hK => ?_)
        have hcv9 := kM (P := Tryd.prog) Tryd.underlying33 Tryd.underlying5 Tryd.underlying9 (Kd.own_of_R HO225.out)
        refine jQ (w1 := ?_) (v := ?_) (by rfl) rfl ?_ ?_
        rotate_left 2
        · go_simp
          constructor
          · rfl
          · rfl
        clear hcv9
        refine hK.out _ _ trivial (fun hHeld => ?_)
        clear hK K
        refine kY (a' := ?_) ?_ ?_
        rotate_left
        · show Act.put _ (some 10) _ = _
          simp only [Act.put, List.setIfInBounds_toArray, List.set_cons_zero, List.set_cons_succ, iP, iY]
          rfl
        exact kY (by simp only [pY, Act.put, List.setIfInBounds_toArray, List.set_cons_zero, List.set_cons_succ]) (hCont (v224) _ ⟨(by (with_reducible repeat (first | apply Kd.R_alloc | apply Kd.R_drewN | apply Kd.R_drew)); exact Kd.R_mono HO222.out (fun _ hk => hk.2)), (by (with_reducible repeat (first | apply Kd.R_alloc | apply Kd.R_drewN | apply Kd.R_drew)); exact Kd.R_mono HO225.out (fun _ hk => hk.2)), hb_⟩)
      · skip
        have hcv8 := kM (P := Tryd.prog) Tryd.underlying33 Tryd.underlying5 Tryd.underlying9 (Kd.own_of_R HO225.out)
        refine jQ (w1 := ?_) (v := ?_) (by rfl) rfl ?_ ?_
        rotate_left 2
        · go_simp
          constructor
          · rfl
          · rfl
        clear hcv8
        refine hK.out _ _ trivial (fun hHeld => ?_)
        clear hK K
        refine kY (a' := ?_) ?_ ?_
        rotate_left
        · show Act.put _ (some 10) _ = _
          simp only [Act.put, List.setIfInBounds_toArray, List.set_cons_zero, List.set_cons_succ, iP, iY]
          rfl
        refine one_ (i := 2) (N := some 7) #[true, true, true, true, true, true, false, false] rfl rfl (kU HT_.out (by kernel_rfl)) (by decide) (fun K hK => ?_)
        have hcv9 := kM (P := Tryd.prog) Tryd.underlying33 Tryd.underlying5 Tryd.underlying9 (Kd.own_of_R HO222.out)
        refine jQ (w1 := ?_) (v := ?_) (by rfl) rfl ?_ ?_
        rotate_left 2
        · go_simp
          constructor
          · rfl
          · rfl
        clear hcv9
        refine hK.out _ _ trivial (fun hHeld => ?_)
        clear hK K
        refine kY (a' := ?_) ?_ ?_
        rotate_left
        · show Act.put _ (some 7) _ = _
          simp only [Act.put, List.setIfInBounds_toArray, List.set_cons_zero, List.set_cons_succ, iP, iY]
          rfl
        exact kY (by simp only [pY, Act.put, List.setIfInBounds_toArray, List.set_cons_zero, List.set_cons_succ]) (hCont (v224) _ ⟨(by (with_reducible repeat (first | apply Kd.R_alloc | apply Kd.R_drewN | apply Kd.R_drew)); exact Kd.R_mono HO222.out (fun _ hk => hk.2)), (by (with_reducible repeat (first | apply Kd.R_alloc | apply Kd.R_drewN | apply Kd.R_drew)); exact Kd.R_mono HO225.out (fun _ hk => hk.2)), hb_⟩)
  rintro v224 w10 ⟨h0_, h1_, h2_⟩
  have n0_ : iD (Kd.R (Kd.int .u8) 5 w10 w.heap.size (fun k_ => some k_ ≠ (v224 : Value).ownBlock) v221 t220) := ⟨h0_⟩
  have n1_ : iD (Kd.R (Kd.int .u8) 5 w10 w.heap.size (fun k_ => some k_ ≠ (v221 : Value).ownBlock) v224 t223) := ⟨h1_⟩
  have n2_ : iD (Below w.heap.size w w10) := ⟨h2_⟩
  clear HB
  clear h0_ h1_ h2_
  have HO222 := n0_
  have HO225 := n1_
  have HB := n2_
  clear n0_ n1_ n2_
  have hHeld := trivial
  refine kY (a' := ?_) ?_ ?_
  rotate_left
  · simp only [pY, Act.put, List.setIfInBounds_toArray, List.set_cons_zero, List.set_cons_succ]
    rfl
  refine jF (i := 6) (N := some 11) (v := ?_) (a' := ?_) #[true, true, true, true, true, true, true, false] rfl rfl (iZ HT_.out (by kernel_rfl)) (fun _ _ _ h => h) (Or.inl ⟨by rfl, ?_⟩) ?_ ?_
  rotate_left
  · intro w'
    go_simp
    with_reducible rfl
  rotate_left
  · simp only [Act.put, List.setIfInBounds_toArray, List.set_cons_zero, List.set_cons_succ, iP, iY]
    rfl
  refine jF (i := 7) (N := some 4) (v := ?_) (a' := ?_) #[true, true, true, true, true, true, true, true] rfl rfl (iZ HT_.out (by kernel_rfl)) (fun _ _ _ h => h) (Or.inl ⟨by rfl, ?_⟩) ?_ ?_
  rotate_left
  · intro w'
    go_simp
    with_reducible rfl
  rotate_left
  · simp only [Act.put, List.setIfInBounds_toArray, List.set_cons_zero, List.set_cons_succ, iP, iY]
    rfl
  refine vW (mZ HT_.out (by kernel_rfl)) ?_
  try go_wp2
  go_ret
  exact ⟨by first | rfl | (simp [iW, iV] <;> rfl) | (simp [*, iW, iV] <;> rfl), hb_⟩
end Go.Proofs.YtgfkgppomaapiaaDoor.K
end

section
namespace Go.Proofs.YtgfkgppomaapiaaDoor.K
open Go.RowKit Go.Proofs.YtgfkgppomaapiaaDoorW.PrintWords Go.Proofs.YtgfkgppomaapiaaDoorW.PrintLast Go.Proofs.YtgfkgppomaapiaaDoorW.PrintMore
attribute [local go_sem] kE kQ
def stratumref07_Same.j0 : Nat → Bool → Int → Int → Int → List Int → List (S139) → Int → List (S98) → Int → Int → List (S86) → Int → Int → Int → List Int → List (S139) → Int → List (S98) → Int → Int → List (S86) → Option (Bool)
  | 0, _, _, _, _, _, _, _, _, _, _, _, _, _, _, _, _, _, _, _, _, _ => none
  | k + 1, x5, x227000, x227001, x227002, x227003, x227004, x227005, x227006, x227007, x227008, x227009, x228000, x228001, x228002, x228003, x228004, x228005, x228006, x228007, x228008, x228009 => if x5 = true then ((stratumref07_SameInts.f k x227003 x228003).bind fun t228 => (if t228 = true then ((stratumref07_SameFacts.f k x227004 x228004).bind fun t229 => (if t229 = true then ((stratumref07_SameMap.f k x227005 x227006 x228005 x228006).bind fun t230 => (if t230 = true then ((stratumref07_SameEntries.f x227009 x228009).bind fun t231 => (some t231)) else (some false))) else (some false))) else (some false))) else (some false)
def stratumref07_Same.f (k : Nat) (a0_0 : Int) (a0_1 : Int) (a0_2 : Int) (l0_3 : List Int) (l0_4 : List (S139)) (a0_5 : Int) (l0_6 : List (S98)) (a0_7 : Int) (a0_8 : Int) (l0_9 : List (S86)) (a1_0 : Int) (a1_1 : Int) (a1_2 : Int) (l1_3 : List Int) (l1_4 : List (S139)) (a1_5 : Int) (l1_6 : List (S98)) (a1_7 : Int) (a1_8 : Int) (l1_9 : List (S86)) : Option (Bool) := if a0_0 = a1_0 then (if a0_1 = a1_1 then (if a0_2 = a1_2 then (if a0_7 = a1_7 then (stratumref07_Same.j0 k (a0_8 == a1_8) a0_0 a0_1 a0_2 l0_3 l0_4 a0_5 l0_6 a0_7 a0_8 l0_9 a1_0 a1_1 a1_2 l1_3 l1_4 a1_5 l1_6 a1_7 a1_8 l1_9) else (stratumref07_Same.j0 k false a0_0 a0_1 a0_2 l0_3 l0_4 a0_5 l0_6 a0_7 a0_8 l0_9 a1_0 a1_1 a1_2 l1_3 l1_4 a1_5 l1_6 a1_7 a1_8 l1_9)) else (stratumref07_Same.j0 k false a0_0 a0_1 a0_2 l0_3 l0_4 a0_5 l0_6 a0_7 a0_8 l0_9 a1_0 a1_1 a1_2 l1_3 l1_4 a1_5 l1_6 a1_7 a1_8 l1_9)) else (stratumref07_Same.j0 k false a0_0 a0_1 a0_2 l0_3 l0_4 a0_5 l0_6 a0_7 a0_8 l0_9 a1_0 a1_1 a1_2 l1_3 l1_4 a1_5 l1_6 a1_7 a1_8 l1_9)) else (stratumref07_Same.j0 k false a0_0 a0_1 a0_2 l0_3 l0_4 a0_5 l0_6 a0_7 a0_8 l0_9 a1_0 a1_1 a1_2 l1_3 l1_4 a1_5 l1_6 a1_7 a1_8 l1_9)
set_option maxHeartbeats 8000000 in
set_option maxRecDepth 100000 in
theorem stratumref07_Same.calls (k : Nat) (a0_0 : Int) (a0_1 : Int) (a0_2 : Int) (A0_3 : Option Addr) (c0_3 : Nat) (l0_3 : List Int) (A0_4 : Option Addr) (c0_4 : Nat) (l0_4 : List (S139)) (a0_5 : Int) (A0_6 : Option Addr) (c0_6 : Nat) (l0_6 : List (S98)) (a0_7 : Int) (a0_8 : Int) (A0_9 : Option Addr) (c0_9 : Nat) (l0_9 : List (S86)) (a1_0 : Int) (a1_1 : Int) (a1_2 : Int) (A1_3 : Option Addr) (c1_3 : Nat) (l1_3 : List Int) (A1_4 : Option Addr) (c1_4 : Nat) (l1_4 : List (S139)) (a1_5 : Int) (A1_6 : Option Addr) (c1_6 : Nat) (l1_6 : List (S98)) (a1_7 : Int) (a1_8 : Int) (A1_9 : Option Addr) (c1_9 : Nat) (l1_9 : List (S86)) (r : Bool) (w : World) (hr0_3 : Kd.C (Kd.int .i64) w A0_3 l0_3.length l0_3) (hc0_3 : l0_3.length ≤ c0_3) (hr0_4 : Kd.C k139 w A0_4 l0_4.length l0_4) (hc0_4 : l0_4.length ≤ c0_4) (hr0_6 : Kd.C k98 w A0_6 l0_6.length l0_6) (hc0_6 : l0_6.length ≤ c0_6) (hr0_9 : Kd.C k86 w A0_9 l0_9.length l0_9) (hc0_9 : l0_9.length ≤ c0_9) (hr1_3 : Kd.C (Kd.int .i64) w A1_3 l1_3.length l1_3) (hc1_3 : l1_3.length ≤ c1_3) (hr1_4 : Kd.C k139 w A1_4 l1_4.length l1_4) (hc1_4 : l1_4.length ≤ c1_4) (hr1_6 : Kd.C k98 w A1_6 l1_6.length l1_6) (hc1_6 : l1_6.length ≤ c1_6) (hr1_9 : Kd.C k86 w A1_9 l1_9.length l1_9) (hc1_9 : l1_9.length ≤ c1_9) (h : stratumref07_Same.f k a0_0 a0_1 a0_2 l0_3 l0_4 a0_5 l0_6 a0_7 a0_8 l0_9 a1_0 a1_1 a1_2 l1_3 l1_4 a1_5 l1_6 a1_7 a1_8 l1_9 = some r) :
    Calls Tryd.prog 23 #[.agg #[.int .u8 a0_0, .int .u32 a0_1, .int .u32 a0_2, .slice A0_3 l0_3.length c0_3, .slice A0_4 l0_4.length c0_4, .int .u32 a0_5, .slice A0_6 l0_6.length c0_6, .int .i64 a0_7, .int .i64 a0_8, .slice A0_9 l0_9.length c0_9], .agg #[.int .u8 a1_0, .int .u32 a1_1, .int .u32 a1_2, .slice A1_3 l1_3.length c1_3, .slice A1_4 l1_4.length c1_4, .int .u32 a1_5, .slice A1_6 l1_6.length c1_6, .int .i64 a1_7, .int .i64 a1_8, .slice A1_9 l1_9.length c1_9]] w fun e w' => e = .returned (.bool r) ∧ Below w.heap.size w w' := by
  have hu30 := Tryd.underlying30
  have hu27 := Tryd.underlying27
  have HR0_3 := iD.mk hr0_3
  have HC0_3 := iD.mk hc0_3
  clear hr0_3 hc0_3
  have HR0_4 := iD.mk hr0_4
  have HC0_4 := iD.mk hc0_4
  clear hr0_4 hc0_4
  have HR0_6 := iD.mk hr0_6
  have HC0_6 := iD.mk hc0_6
  clear hr0_6 hc0_6
  have HR0_9 := iD.mk hr0_9
  have HC0_9 := iD.mk hc0_9
  clear hr0_9 hc0_9
  have HR1_3 := iD.mk hr1_3
  have HC1_3 := iD.mk hc1_3
  clear hr1_3 hc1_3
  have HR1_4 := iD.mk hr1_4
  have HC1_4 := iD.mk hc1_4
  clear hr1_4 hc1_4
  have HR1_6 := iD.mk hr1_6
  have HC1_6 := iD.mk hc1_6
  clear hr1_6 hc1_6
  have HR1_9 := iD.mk hr1_9
  have HC1_9 := iD.mk hc1_9
  clear hr1_9 hc1_9
  have HB := iD.mk (Below.refl w.heap.size w)
  have H : (if a0_0 = a1_0 then (if a0_1 = a1_1 then (if a0_2 = a1_2 then (if a0_7 = a1_7 then (stratumref07_Same.j0 k (a0_8 == a1_8) a0_0 a0_1 a0_2 l0_3 l0_4 a0_5 l0_6 a0_7 a0_8 l0_9 a1_0 a1_1 a1_2 l1_3 l1_4 a1_5 l1_6 a1_7 a1_8 l1_9) else (stratumref07_Same.j0 k false a0_0 a0_1 a0_2 l0_3 l0_4 a0_5 l0_6 a0_7 a0_8 l0_9 a1_0 a1_1 a1_2 l1_3 l1_4 a1_5 l1_6 a1_7 a1_8 l1_9)) else (stratumref07_Same.j0 k false a0_0 a0_1 a0_2 l0_3 l0_4 a0_5 l0_6 a0_7 a0_8 l0_9 a1_0 a1_1 a1_2 l1_3 l1_4 a1_5 l1_6 a1_7 a1_8 l1_9)) else (stratumref07_Same.j0 k false a0_0 a0_1 a0_2 l0_3 l0_4 a0_5 l0_6 a0_7 a0_8 l0_9 a1_0 a1_1 a1_2 l1_3 l1_4 a1_5 l1_6 a1_7 a1_8 l1_9)) else (stratumref07_Same.j0 k false a0_0 a0_1 a0_2 l0_3 l0_4 a0_5 l0_6 a0_7 a0_8 l0_9 a1_0 a1_1 a1_2 l1_3 l1_4 a1_5 l1_6 a1_7 a1_8 l1_9)) = some r := h
  clear h
  have HC3 := iD.mk H
  clear H
  go_enter Tryd.func23, Tryd.ntmps23
  go_upto_region 1 with (first | ((with_reducible refine jU (N := 2) rfl ?_); refine jM ?hg (N := 2) ?hd (cs := #[.int .u8 a0_0, .int .u32 a0_1, .int .u32 a0_2, .slice A0_3 l0_3.length c0_3, .slice A0_4 l0_4.length c0_4, .int .u32 a0_5, .slice A0_6 l0_6.length c0_6, .int .i64 a0_7, .int .i64 a0_8, .slice A0_9 l0_9.length c0_9]) (t := 30) ?hr ?_; (case hd => rfl); (case hg => rfl); (case hr => first | (go_simp; done) | (go_simp; rfl)); intro gb226 hg w4 hbox hb; have n0_ := iD.mk (iL hb_ hb); have n1_ := iD.mk (hbox); have n2_ := iD.mk ((by rw [hg]; exact (iQ hb_) : w.heap.size ≤ gb226)); have n3_ := iD.mk ((by rw [hg]; exact (iQ hb_) : w.heap.size ≤ gb226)); clear HB; have HB := n0_; have BK226 := n1_; have GW226 := n2_; have GE226 := n3_; clear n0_ n1_ n2_ n3_; clear hb hbox hg) | ((with_reducible refine jU (N := 3) rfl ?_); refine jM ?hg (N := 3) ?hd (cs := #[.int .u8 a1_0, .int .u32 a1_1, .int .u32 a1_2, .slice A1_3 l1_3.length c1_3, .slice A1_4 l1_4.length c1_4, .int .u32 a1_5, .slice A1_6 l1_6.length c1_6, .int .i64 a1_7, .int .i64 a1_8, .slice A1_9 l1_9.length c1_9]) (t := 30) ?hr ?_; (case hd => rfl); (case hg => rfl); (case hr => first | (go_simp; done) | (go_simp; rfl)); intro gb227 hg w5 hbox hb; have n0_ := iD.mk (jR (g := gb226) (o := .cells #[.int .u8 a0_0, .int .u32 a0_1, .int .u32 a0_2, .slice A0_3 l0_3.length c0_3, .slice A0_4 l0_4.length c0_4, .int .u32 a0_5, .slice A0_6 l0_6.length c0_6, .int .i64 a0_7, .int .i64 a0_8, .slice A0_9 l0_9.length c0_9] 30 (0, 0)) (bk_ BK226.out) hb); have n1_ := iD.mk (iL (by repeat (first | (with_reducible first | exact HB.out | apply iF | apply iG | apply iJ | refine iH ?_ GE226.out) | exact HB.out)) hb); have n2_ := iD.mk (hbox); have n3_ := iD.mk ((by rw [hg]; exact (iQ (by repeat (first | (with_reducible first | exact HB.out | apply iF | apply iG | apply iJ | refine iH ?_ GE226.out) | exact HB.out))) : w.heap.size ≤ gb227)); have n4_ := iD.mk ((by rw [hg]; exact (iQ (by repeat (first | (with_reducible first | exact HB.out | apply iF | apply iG | apply iJ | refine iH ?_ GE226.out) | exact HB.out))) : w.heap.size ≤ gb227)); have n5_ := iD.mk ((by rw [hg]; exact Nat.ne_of_lt (kD (g := gb226) (o := .cells #[.int .u8 a0_0, .int .u32 a0_1, .int .u32 a0_2, .slice A0_3 l0_3.length c0_3, .slice A0_4 l0_4.length c0_4, .int .u32 a0_5, .slice A0_6 l0_6.length c0_6, .int .i64 a0_7, .int .i64 a0_8, .slice A0_9 l0_9.length c0_9] 30 (0, 0)) (bk_ BK226.out)) : gb226 ≠ gb227)); have n6_ := iD.mk ((by rw [hg]; exact Nat.ne_of_gt (kD (g := gb226) (o := .cells #[.int .u8 a0_0, .int .u32 a0_1, .int .u32 a0_2, .slice A0_3 l0_3.length c0_3, .slice A0_4 l0_4.length c0_4, .int .u32 a0_5, .slice A0_6 l0_6.length c0_6, .int .i64 a0_7, .int .i64 a0_8, .slice A0_9 l0_9.length c0_9] 30 (0, 0)) (bk_ BK226.out)) : gb227 ≠ gb226)); clear BK226; clear HB; have BK226 := n0_; have HB := n1_; have BK227 := n2_; have GW227 := n3_; have GE227 := n4_; have NB226_227 := n5_; have NB227_226 := n6_; clear n0_ n1_ n2_ n3_ n4_ n5_ n6_; clear hb hbox hg))
  (try simp only [Act.put, List.setIfInBounds_toArray, List.set_cons_zero, List.set_cons_succ])
  go_cut [5] (fun v5 wc => ∃ (kq : Nat) (x5_2 : Bool), v5 = .bool x5_2 ∧ iD (stratumref07_Same.j0 kq x5_2 a0_0 a0_1 a0_2 l0_3 l0_4 a0_5 l0_6 a0_7 a0_8 l0_9 a1_0 a1_1 a1_2 l1_3 l1_4 a1_5 l1_6 a1_7 a1_8 l1_9 = some r) ∧ iD (kq ≤ k) ∧ iD (wc.heap[gb226]? = some (.cells #[.int .u8 a0_0, .int .u32 a0_1, .int .u32 a0_2, (.slice A0_3 l0_3.length c0_3), (.slice A0_4 l0_4.length c0_4), .int .u32 a0_5, (.slice A0_6 l0_6.length c0_6), .int .i64 a0_7, .int .i64 a0_8, (.slice A0_9 l0_9.length c0_9)] 30 (0, 0))) ∧ iD (wc.heap[gb227]? = some (.cells #[.int .u8 a1_0, .int .u32 a1_1, .int .u32 a1_2, (.slice A1_3 l1_3.length c1_3), (.slice A1_4 l1_4.length c1_4), .int .u32 a1_5, (.slice A1_6 l1_6.length c1_6), .int .i64 a1_7, .int .i64 a1_8, (.slice A1_9 l1_9.length c1_9)] 30 (0, 0))) ∧ iD (Below w.heap.size w wc))
  case first =>
    have H := HC3.out
    clear HC3
    by_cases c6 : a0_0 = a1_0
    · rw [if_pos c6] at H
      have c6b0 : (a0_0 == a1_0) = true := beq_iff_eq.mpr c6
      have c6b1 : (a0_0 != a1_0) = false := bne_eq_false_iff_eq.mpr c6
      clear c6
      (first | rw [c6b0] | (simp only [iP, iY]; rw [c6b0]) | skip)
      by_cases c7 : a0_1 = a1_1
      · rw [if_pos c7] at H
        have c7b0 : (a0_1 == a1_1) = true := beq_iff_eq.mpr c7
        have c7b1 : (a0_1 != a1_1) = false := bne_eq_false_iff_eq.mpr c7
        clear c7
        by_cases c8 : a0_2 = a1_2
        · rw [if_pos c8] at H
          have c8b0 : (a0_2 == a1_2) = true := beq_iff_eq.mpr c8
          have c8b1 : (a0_2 != a1_2) = false := bne_eq_false_iff_eq.mpr c8
          clear c8
          by_cases c9 : a0_7 = a1_7
          · rw [if_pos c9] at H
            have c9b0 : (a0_7 == a1_7) = true := beq_iff_eq.mpr c9
            have c9b1 : (a0_7 != a1_7) = false := bne_eq_false_iff_eq.mpr c9
            clear c9
            have H' := iD.mk H
            clear H
            have hnb10 := NB226_227.out
            have hnc10 := NB227_226.out
            have hcz11_0 : w5.cell? ⟨gb226, 0, none⟩ = some (.int .u8 a0_0) := (iE BK226.out 0).trans rfl
            have hcz11_1 : w5.cell? ⟨gb226, 1, none⟩ = some (.int .u32 a0_1) := (iE BK226.out 1).trans rfl
            have hcz11_2 : w5.cell? ⟨gb226, 2, none⟩ = some (.int .u32 a0_2) := (iE BK226.out 2).trans rfl
            have hcz11_3 : w5.cell? ⟨gb226, 3, none⟩ = some (.slice A0_3 l0_3.length c0_3) := (iE BK226.out 3).trans rfl
            have hcz11_4 : w5.cell? ⟨gb226, 4, none⟩ = some (.slice A0_4 l0_4.length c0_4) := (iE BK226.out 4).trans rfl
            have hcz11_5 : w5.cell? ⟨gb226, 5, none⟩ = some (.int .u32 a0_5) := (iE BK226.out 5).trans rfl
            have hcz11_6 : w5.cell? ⟨gb226, 6, none⟩ = some (.slice A0_6 l0_6.length c0_6) := (iE BK226.out 6).trans rfl
            have hcz11_7 : w5.cell? ⟨gb226, 7, none⟩ = some (.int .i64 a0_7) := (iE BK226.out 7).trans rfl
            have hcz11_8 : w5.cell? ⟨gb226, 8, none⟩ = some (.int .i64 a0_8) := (iE BK226.out 8).trans rfl
            have hcz11_9 : w5.cell? ⟨gb226, 9, none⟩ = some (.slice A0_9 l0_9.length c0_9) := (iE BK226.out 9).trans rfl
            have hfz11_0 := iC BK226.out 0
            have hfz11_1 := iC BK226.out 1
            have hfz11_2 := iC BK226.out 2
            have hfz11_3 := iC BK226.out 3
            have hfz11_4 := iC BK226.out 4
            have hfz11_5 := iC BK226.out 5
            have hfz11_6 := iC BK226.out 6
            have hfz11_7 := iC BK226.out 7
            have hfz11_8 := iC BK226.out 8
            have hfz11_9 := iC BK226.out 9
            have hcz12_0 : w5.cell? ⟨gb227, 0, none⟩ = some (.int .u8 a1_0) := (iE BK227.out 0).trans rfl
            have hcz12_1 : w5.cell? ⟨gb227, 1, none⟩ = some (.int .u32 a1_1) := (iE BK227.out 1).trans rfl
            have hcz12_2 : w5.cell? ⟨gb227, 2, none⟩ = some (.int .u32 a1_2) := (iE BK227.out 2).trans rfl
            have hcz12_3 : w5.cell? ⟨gb227, 3, none⟩ = some (.slice A1_3 l1_3.length c1_3) := (iE BK227.out 3).trans rfl
            have hcz12_4 : w5.cell? ⟨gb227, 4, none⟩ = some (.slice A1_4 l1_4.length c1_4) := (iE BK227.out 4).trans rfl
            have hcz12_5 : w5.cell? ⟨gb227, 5, none⟩ = some (.int .u32 a1_5) := (iE BK227.out 5).trans rfl
            have hcz12_6 : w5.cell? ⟨gb227, 6, none⟩ = some (.slice A1_6 l1_6.length c1_6) := (iE BK227.out 6).trans rfl
            have hcz12_7 : w5.cell? ⟨gb227, 7, none⟩ = some (.int .i64 a1_7) := (iE BK227.out 7).trans rfl
            have hcz12_8 : w5.cell? ⟨gb227, 8, none⟩ = some (.int .i64 a1_8) := (iE BK227.out 8).trans rfl
            have hcz12_9 : w5.cell? ⟨gb227, 9, none⟩ = some (.slice A1_9 l1_9.length c1_9) := (iE BK227.out 9).trans rfl
            have hfz12_0 := iC BK227.out 0
            have hfz12_1 := iC BK227.out 1
            have hfz12_2 := iC BK227.out 2
            have hfz12_3 := iC BK227.out 3
            have hfz12_4 := iC BK227.out 4
            have hfz12_5 := iC BK227.out 5
            have hfz12_6 := iC BK227.out 6
            have hfz12_7 := iC BK227.out 7
            have hfz12_8 := iC BK227.out 8
            have hfz12_9 := iC BK227.out 9
            go_wp2
            go_meet
            case rel => exact ⟨_, ((a0_8 == a1_8)), (by first | rfl | (simp; done) | (simp [*]; done)), H', ⟨by first | omega | exact Nat.le_refl _⟩, ⟨bk_ BK226.out⟩, ⟨bk_ BK227.out⟩, ⟨by repeat (first | (with_reducible first | exact HB.out | apply iF | apply iG | apply iJ | refine iH ?_ GE226.out | refine iH ?_ GE227.out) | exact HB.out)⟩⟩
          · rw [if_neg c9] at H
            have c9b0 : (a0_7 == a1_7) = false := beq_eq_false_iff_ne.mpr c9
            have c9b1 : (a0_7 != a1_7) = true := bne_iff_ne.mpr c9
            have H' := iD.mk H
            clear H
            have hnb13 := NB226_227.out
            have hnc13 := NB227_226.out
            have hcz14_0 : w5.cell? ⟨gb226, 0, none⟩ = some (.int .u8 a0_0) := (iE BK226.out 0).trans rfl
            have hcz14_1 : w5.cell? ⟨gb226, 1, none⟩ = some (.int .u32 a0_1) := (iE BK226.out 1).trans rfl
            have hcz14_2 : w5.cell? ⟨gb226, 2, none⟩ = some (.int .u32 a0_2) := (iE BK226.out 2).trans rfl
            have hcz14_3 : w5.cell? ⟨gb226, 3, none⟩ = some (.slice A0_3 l0_3.length c0_3) := (iE BK226.out 3).trans rfl
            have hcz14_4 : w5.cell? ⟨gb226, 4, none⟩ = some (.slice A0_4 l0_4.length c0_4) := (iE BK226.out 4).trans rfl
            have hcz14_5 : w5.cell? ⟨gb226, 5, none⟩ = some (.int .u32 a0_5) := (iE BK226.out 5).trans rfl
            have hcz14_6 : w5.cell? ⟨gb226, 6, none⟩ = some (.slice A0_6 l0_6.length c0_6) := (iE BK226.out 6).trans rfl
            have hcz14_7 : w5.cell? ⟨gb226, 7, none⟩ = some (.int .i64 a0_7) := (iE BK226.out 7).trans rfl
            have hcz14_8 : w5.cell? ⟨gb226, 8, none⟩ = some (.int .i64 a0_8) := (iE BK226.out 8).trans rfl
            have hcz14_9 : w5.cell? ⟨gb226, 9, none⟩ = some (.slice A0_9 l0_9.length c0_9) := (iE BK226.out 9).trans rfl
            have hfz14_0 := iC BK226.out 0
            have hfz14_1 := iC BK226.out 1
            have hfz14_2 := iC BK226.out 2
            have hfz14_3 := iC BK226.out 3
            have hfz14_4 := iC BK226.out 4
            have hfz14_5 := iC BK226.out 5
            have hfz14_6 := iC BK226.out 6
            have hfz14_7 := iC BK226.out 7
            have hfz14_8 := iC BK226.out 8
            have hfz14_9 := iC BK226.out 9
            have hcz15_0 : w5.cell? ⟨gb227, 0, none⟩ = some (.int .u8 a1_0) := (iE BK227.out 0).trans rfl
            have hcz15_1 : w5.cell? ⟨gb227, 1, none⟩ = some (.int .u32 a1_1) := (iE BK227.out 1).trans rfl
            have hcz15_2 : w5.cell? ⟨gb227, 2, none⟩ = some (.int .u32 a1_2) := (iE BK227.out 2).trans rfl
            have hcz15_3 : w5.cell? ⟨gb227, 3, none⟩ = some (.slice A1_3 l1_3.length c1_3) := (iE BK227.out 3).trans rfl
            have hcz15_4 : w5.cell? ⟨gb227, 4, none⟩ = some (.slice A1_4 l1_4.length c1_4) := (iE BK227.out 4).trans rfl
            have hcz15_5 : w5.cell? ⟨gb227, 5, none⟩ = some (.int .u32 a1_5) := (iE BK227.out 5).trans rfl
            have hcz15_6 : w5.cell? ⟨gb227, 6, none⟩ = some (.slice A1_6 l1_6.length c1_6) := (iE BK227.out 6).trans rfl
            have hcz15_7 : w5.cell? ⟨gb227, 7, none⟩ = some (.int .i64 a1_7) := (iE BK227.out 7).trans rfl
            have hcz15_8 : w5.cell? ⟨gb227, 8, none⟩ = some (.int .i64 a1_8) := (iE BK227.out 8).trans rfl
            have hcz15_9 : w5.cell? ⟨gb227, 9, none⟩ = some (.slice A1_9 l1_9.length c1_9) := (iE BK227.out 9).trans rfl
            have hfz15_0 := iC BK227.out 0
            have hfz15_1 := iC BK227.out 1
            have hfz15_2 := iC BK227.out 2
            have hfz15_3 := iC BK227.out 3
            have hfz15_4 := iC BK227.out 4
            have hfz15_5 := iC BK227.out 5
            have hfz15_6 := iC BK227.out 6
            have hfz15_7 := iC BK227.out 7
            have hfz15_8 := iC BK227.out 8
            have hfz15_9 := iC BK227.out 9
            go_wp2
            go_meet
            case rel => exact ⟨_, (false), (by first | rfl | (simp; done) | (simp [*]; done)), H', ⟨by first | omega | exact Nat.le_refl _⟩, ⟨bk_ BK226.out⟩, ⟨bk_ BK227.out⟩, ⟨by repeat (first | (with_reducible first | exact HB.out | apply iF | apply iG | apply iJ | refine iH ?_ GE226.out | refine iH ?_ GE227.out) | exact HB.out)⟩⟩
        · rw [if_neg c8] at H
          have c8b0 : (a0_2 == a1_2) = false := beq_eq_false_iff_ne.mpr c8
          have c8b1 : (a0_2 != a1_2) = true := bne_iff_ne.mpr c8
          have H' := iD.mk H
          clear H
          have hnb16 := NB226_227.out
          have hnc16 := NB227_226.out
          have hcz17_0 : w5.cell? ⟨gb226, 0, none⟩ = some (.int .u8 a0_0) := (iE BK226.out 0).trans rfl
          have hcz17_1 : w5.cell? ⟨gb226, 1, none⟩ = some (.int .u32 a0_1) := (iE BK226.out 1).trans rfl
          have hcz17_2 : w5.cell? ⟨gb226, 2, none⟩ = some (.int .u32 a0_2) := (iE BK226.out 2).trans rfl
          have hcz17_3 : w5.cell? ⟨gb226, 3, none⟩ = some (.slice A0_3 l0_3.length c0_3) := (iE BK226.out 3).trans rfl
          have hcz17_4 : w5.cell? ⟨gb226, 4, none⟩ = some (.slice A0_4 l0_4.length c0_4) := (iE BK226.out 4).trans rfl
          have hcz17_5 : w5.cell? ⟨gb226, 5, none⟩ = some (.int .u32 a0_5) := (iE BK226.out 5).trans rfl
          have hcz17_6 : w5.cell? ⟨gb226, 6, none⟩ = some (.slice A0_6 l0_6.length c0_6) := (iE BK226.out 6).trans rfl
          have hcz17_7 : w5.cell? ⟨gb226, 7, none⟩ = some (.int .i64 a0_7) := (iE BK226.out 7).trans rfl
          have hcz17_8 : w5.cell? ⟨gb226, 8, none⟩ = some (.int .i64 a0_8) := (iE BK226.out 8).trans rfl
          have hcz17_9 : w5.cell? ⟨gb226, 9, none⟩ = some (.slice A0_9 l0_9.length c0_9) := (iE BK226.out 9).trans rfl
          have hfz17_0 := iC BK226.out 0
          have hfz17_1 := iC BK226.out 1
          have hfz17_2 := iC BK226.out 2
          have hfz17_3 := iC BK226.out 3
          have hfz17_4 := iC BK226.out 4
          have hfz17_5 := iC BK226.out 5
          have hfz17_6 := iC BK226.out 6
          have hfz17_7 := iC BK226.out 7
          have hfz17_8 := iC BK226.out 8
          have hfz17_9 := iC BK226.out 9
          have hcz18_0 : w5.cell? ⟨gb227, 0, none⟩ = some (.int .u8 a1_0) := (iE BK227.out 0).trans rfl
          have hcz18_1 : w5.cell? ⟨gb227, 1, none⟩ = some (.int .u32 a1_1) := (iE BK227.out 1).trans rfl
          have hcz18_2 : w5.cell? ⟨gb227, 2, none⟩ = some (.int .u32 a1_2) := (iE BK227.out 2).trans rfl
          have hcz18_3 : w5.cell? ⟨gb227, 3, none⟩ = some (.slice A1_3 l1_3.length c1_3) := (iE BK227.out 3).trans rfl
          have hcz18_4 : w5.cell? ⟨gb227, 4, none⟩ = some (.slice A1_4 l1_4.length c1_4) := (iE BK227.out 4).trans rfl
          have hcz18_5 : w5.cell? ⟨gb227, 5, none⟩ = some (.int .u32 a1_5) := (iE BK227.out 5).trans rfl
          have hcz18_6 : w5.cell? ⟨gb227, 6, none⟩ = some (.slice A1_6 l1_6.length c1_6) := (iE BK227.out 6).trans rfl
          have hcz18_7 : w5.cell? ⟨gb227, 7, none⟩ = some (.int .i64 a1_7) := (iE BK227.out 7).trans rfl
          have hcz18_8 : w5.cell? ⟨gb227, 8, none⟩ = some (.int .i64 a1_8) := (iE BK227.out 8).trans rfl
          have hcz18_9 : w5.cell? ⟨gb227, 9, none⟩ = some (.slice A1_9 l1_9.length c1_9) := (iE BK227.out 9).trans rfl
          have hfz18_0 := iC BK227.out 0
          have hfz18_1 := iC BK227.out 1
          have hfz18_2 := iC BK227.out 2
          have hfz18_3 := iC BK227.out 3
          have hfz18_4 := iC BK227.out 4
          have hfz18_5 := iC BK227.out 5
          have hfz18_6 := iC BK227.out 6
          have hfz18_7 := iC BK227.out 7
          have hfz18_8 := iC BK227.out 8
          have hfz18_9 := iC BK227.out 9
          go_wp2
          go_meet
          case rel => exact ⟨_, (false), (by first | rfl | (simp; done) | (simp [*]; done)), H', ⟨by first | omega | exact Nat.le_refl _⟩, ⟨bk_ BK226.out⟩, ⟨bk_ BK227.out⟩, ⟨by repeat (first | (with_reducible first | exact HB.out | apply iF | apply iG | apply iJ | refine iH ?_ GE226.out | refine iH ?_ GE227.out) | exact HB.out)⟩⟩
      · rw [if_neg c7] at H
        have c7b0 : (a0_1 == a1_1) = false := beq_eq_false_iff_ne.mpr c7
        have c7b1 : (a0_1 != a1_1) = true := bne_iff_ne.mpr c7
        have H' := iD.mk H
        clear H
        have hnb19 := NB226_227.out
        have hnc19 := NB227_226.out
        have hcz20_0 : w5.cell? ⟨gb226, 0, none⟩ = some (.int .u8 a0_0) := (iE BK226.out 0).trans rfl
        have hcz20_1 : w5.cell? ⟨gb226, 1, none⟩ = some (.int .u32 a0_1) := (iE BK226.out 1).trans rfl
        have hcz20_2 : w5.cell? ⟨gb226, 2, none⟩ = some (.int .u32 a0_2) := (iE BK226.out 2).trans rfl
        have hcz20_3 : w5.cell? ⟨gb226, 3, none⟩ = some (.slice A0_3 l0_3.length c0_3) := (iE BK226.out 3).trans rfl
        have hcz20_4 : w5.cell? ⟨gb226, 4, none⟩ = some (.slice A0_4 l0_4.length c0_4) := (iE BK226.out 4).trans rfl
        have hcz20_5 : w5.cell? ⟨gb226, 5, none⟩ = some (.int .u32 a0_5) := (iE BK226.out 5).trans rfl
        have hcz20_6 : w5.cell? ⟨gb226, 6, none⟩ = some (.slice A0_6 l0_6.length c0_6) := (iE BK226.out 6).trans rfl
        have hcz20_7 : w5.cell? ⟨gb226, 7, none⟩ = some (.int .i64 a0_7) := (iE BK226.out 7).trans rfl
        have hcz20_8 : w5.cell? ⟨gb226, 8, none⟩ = some (.int .i64 a0_8) := (iE BK226.out 8).trans rfl
        have hcz20_9 : w5.cell? ⟨gb226, 9, none⟩ = some (.slice A0_9 l0_9.length c0_9) := (iE BK226.out 9).trans rfl
        have hfz20_0 := iC BK226.out 0
        have hfz20_1 := iC BK226.out 1
        have hfz20_2 := iC BK226.out 2
        have hfz20_3 := iC BK226.out 3
        have hfz20_4 := iC BK226.out 4
        have hfz20_5 := iC BK226.out 5
        have hfz20_6 := iC BK226.out 6
        have hfz20_7 := iC BK226.out 7
        have hfz20_8 := iC BK226.out 8
        have hfz20_9 := iC BK226.out 9
        have hcz21_0 : w5.cell? ⟨gb227, 0, none⟩ = some (.int .u8 a1_0) := (iE BK227.out 0).trans rfl
        have hcz21_1 : w5.cell? ⟨gb227, 1, none⟩ = some (.int .u32 a1_1) := (iE BK227.out 1).trans rfl
        have hcz21_2 : w5.cell? ⟨gb227, 2, none⟩ = some (.int .u32 a1_2) := (iE BK227.out 2).trans rfl
        have hcz21_3 : w5.cell? ⟨gb227, 3, none⟩ = some (.slice A1_3 l1_3.length c1_3) := (iE BK227.out 3).trans rfl
        have hcz21_4 : w5.cell? ⟨gb227, 4, none⟩ = some (.slice A1_4 l1_4.length c1_4) := (iE BK227.out 4).trans rfl
        have hcz21_5 : w5.cell? ⟨gb227, 5, none⟩ = some (.int .u32 a1_5) := (iE BK227.out 5).trans rfl
        have hcz21_6 : w5.cell? ⟨gb227, 6, none⟩ = some (.slice A1_6 l1_6.length c1_6) := (iE BK227.out 6).trans rfl
        have hcz21_7 : w5.cell? ⟨gb227, 7, none⟩ = some (.int .i64 a1_7) := (iE BK227.out 7).trans rfl
        have hcz21_8 : w5.cell? ⟨gb227, 8, none⟩ = some (.int .i64 a1_8) := (iE BK227.out 8).trans rfl
        have hcz21_9 : w5.cell? ⟨gb227, 9, none⟩ = some (.slice A1_9 l1_9.length c1_9) := (iE BK227.out 9).trans rfl
        have hfz21_0 := iC BK227.out 0
        have hfz21_1 := iC BK227.out 1
        have hfz21_2 := iC BK227.out 2
        have hfz21_3 := iC BK227.out 3
        have hfz21_4 := iC BK227.out 4
        have hfz21_5 := iC BK227.out 5
        have hfz21_6 := iC BK227.out 6
        have hfz21_7 := iC BK227.out 7
        have hfz21_8 := iC BK227.out 8
        have hfz21_9 := iC BK227.out 9
        go_wp2
        go_meet
        case rel => exact ⟨_, (false), (by first | rfl | (simp; done) | (simp [*]; done)), H', ⟨by first | omega | exact Nat.le_refl _⟩, ⟨bk_ BK226.out⟩, ⟨bk_ BK227.out⟩, ⟨by repeat (first | (with_reducible first | exact HB.out | apply iF | apply iG | apply iJ | refine iH ?_ GE226.out | refine iH ?_ GE227.out) | exact HB.out)⟩⟩
    · rw [if_neg c6] at H
      have c6b0 : (a0_0 == a1_0) = false := beq_eq_false_iff_ne.mpr c6
      have c6b1 : (a0_0 != a1_0) = true := bne_iff_ne.mpr c6
      (first | rw [c6b0] | (simp only [iP, iY]; rw [c6b0]) | skip)
      have H' := iD.mk H
      clear H
      have hnb22 := NB226_227.out
      have hnc22 := NB227_226.out
      have hcz23_0 : w5.cell? ⟨gb226, 0, none⟩ = some (.int .u8 a0_0) := (iE BK226.out 0).trans rfl
      have hcz23_1 : w5.cell? ⟨gb226, 1, none⟩ = some (.int .u32 a0_1) := (iE BK226.out 1).trans rfl
      have hcz23_2 : w5.cell? ⟨gb226, 2, none⟩ = some (.int .u32 a0_2) := (iE BK226.out 2).trans rfl
      have hcz23_3 : w5.cell? ⟨gb226, 3, none⟩ = some (.slice A0_3 l0_3.length c0_3) := (iE BK226.out 3).trans rfl
      have hcz23_4 : w5.cell? ⟨gb226, 4, none⟩ = some (.slice A0_4 l0_4.length c0_4) := (iE BK226.out 4).trans rfl
      have hcz23_5 : w5.cell? ⟨gb226, 5, none⟩ = some (.int .u32 a0_5) := (iE BK226.out 5).trans rfl
      have hcz23_6 : w5.cell? ⟨gb226, 6, none⟩ = some (.slice A0_6 l0_6.length c0_6) := (iE BK226.out 6).trans rfl
      have hcz23_7 : w5.cell? ⟨gb226, 7, none⟩ = some (.int .i64 a0_7) := (iE BK226.out 7).trans rfl
      have hcz23_8 : w5.cell? ⟨gb226, 8, none⟩ = some (.int .i64 a0_8) := (iE BK226.out 8).trans rfl
      have hcz23_9 : w5.cell? ⟨gb226, 9, none⟩ = some (.slice A0_9 l0_9.length c0_9) := (iE BK226.out 9).trans rfl
      have hfz23_0 := iC BK226.out 0
      have hfz23_1 := iC BK226.out 1
      have hfz23_2 := iC BK226.out 2
      have hfz23_3 := iC BK226.out 3
      have hfz23_4 := iC BK226.out 4
      have hfz23_5 := iC BK226.out 5
      have hfz23_6 := iC BK226.out 6
      have hfz23_7 := iC BK226.out 7
      have hfz23_8 := iC BK226.out 8
      have hfz23_9 := iC BK226.out 9
      have hcz24_0 : w5.cell? ⟨gb227, 0, none⟩ = some (.int .u8 a1_0) := (iE BK227.out 0).trans rfl
      have hcz24_1 : w5.cell? ⟨gb227, 1, none⟩ = some (.int .u32 a1_1) := (iE BK227.out 1).trans rfl
      have hcz24_2 : w5.cell? ⟨gb227, 2, none⟩ = some (.int .u32 a1_2) := (iE BK227.out 2).trans rfl
      have hcz24_3 : w5.cell? ⟨gb227, 3, none⟩ = some (.slice A1_3 l1_3.length c1_3) := (iE BK227.out 3).trans rfl
      have hcz24_4 : w5.cell? ⟨gb227, 4, none⟩ = some (.slice A1_4 l1_4.length c1_4) := (iE BK227.out 4).trans rfl
      have hcz24_5 : w5.cell? ⟨gb227, 5, none⟩ = some (.int .u32 a1_5) := (iE BK227.out 5).trans rfl
      have hcz24_6 : w5.cell? ⟨gb227, 6, none⟩ = some (.slice A1_6 l1_6.length c1_6) := (iE BK227.out 6).trans rfl
      have hcz24_7 : w5.cell? ⟨gb227, 7, none⟩ = some (.int .i64 a1_7) := (iE BK227.out 7).trans rfl
      have hcz24_8 : w5.cell? ⟨gb227, 8, none⟩ = some (.int .i64 a1_8) := (iE BK227.out 8).trans rfl
      have hcz24_9 : w5.cell? ⟨gb227, 9, none⟩ = some (.slice A1_9 l1_9.length c1_9) := (iE BK227.out 9).trans rfl
      have hfz24_0 := iC BK227.out 0
      have hfz24_1 := iC BK227.out 1
      have hfz24_2 := iC BK227.out 2
      have hfz24_3 := iC BK227.out 3
      have hfz24_4 := iC BK227.out 4
      have hfz24_5 := iC BK227.out 5
      have hfz24_6 := iC BK227.out 6
      have hfz24_7 := iC BK227.out 7
      have hfz24_8 := iC BK227.out 8
      have hfz24_9 := iC BK227.out 9
      go_wp2
      go_meet
      case rel => exact ⟨_, (false), (by first | rfl | (simp; done) | (simp [*]; done)), H', ⟨by first | omega | exact Nat.le_refl _⟩, ⟨bk_ BK226.out⟩, ⟨bk_ BK227.out⟩, ⟨by repeat (first | (with_reducible first | exact HB.out | apply iF | apply iG | apply iJ | refine iH ?_ GE226.out | refine iH ?_ GE227.out) | exact HB.out)⟩⟩
  case rest =>
    clear HC3
    try clear c1
    try clear c2
    try clear p2
    try clear c6
    try clear c6b0
    try clear c6b1
    try clear c7
    try clear c7b0
    try clear c7b1
    try clear c8
    try clear c8b0
    try clear c8b1
    try clear c9
    try clear c9b0
    try clear c9b1
    try clear c10
    try clear c13
    try clear c16
    try clear c19
    try clear c22
    try clear c23
    try clear hcz11_0
    try clear hcz11_1
    try clear hcz11_2
    try clear hcz11_3
    try clear hcz11_4
    try clear hcz11_5
    try clear hcz11_6
    try clear hcz11_7
    try clear hcz11_8
    try clear hcz11_9
    try clear hcz12_0
    try clear hcz12_1
    try clear hcz12_2
    try clear hcz12_3
    try clear hcz12_4
    try clear hcz12_5
    try clear hcz12_6
    try clear hcz12_7
    try clear hcz12_8
    try clear hcz12_9
    try clear hcz14_0
    try clear hcz14_1
    try clear hcz14_2
    try clear hcz14_3
    try clear hcz14_4
    try clear hcz14_5
    try clear hcz14_6
    try clear hcz14_7
    try clear hcz14_8
    try clear hcz14_9
    try clear hcz15_0
    try clear hcz15_1
    try clear hcz15_2
    try clear hcz15_3
    try clear hcz15_4
    try clear hcz15_5
    try clear hcz15_6
    try clear hcz15_7
    try clear hcz15_8
    try clear hcz15_9
    try clear hcz17_0
    try clear hcz17_1
    try clear hcz17_2
    try clear hcz17_3
    try clear hcz17_4
    try clear hcz17_5
    try clear hcz17_6
    try clear hcz17_7
    try clear hcz17_8
    try clear hcz17_9
    try clear hcz18_0
    try clear hcz18_1
    try clear hcz18_2
    try clear hcz18_3
    try clear hcz18_4
    try clear hcz18_5
    try clear hcz18_6
    try clear hcz18_7
    try clear hcz18_8
    try clear hcz18_9
    try clear hcz20_0
    try clear hcz20_1
    try clear hcz20_2
    try clear hcz20_3
    try clear hcz20_4
    try clear hcz20_5
    try clear hcz20_6
    try clear hcz20_7
    try clear hcz20_8
    try clear hcz20_9
    try clear hcz21_0
    try clear hcz21_1
    try clear hcz21_2
    try clear hcz21_3
    try clear hcz21_4
    try clear hcz21_5
    try clear hcz21_6
    try clear hcz21_7
    try clear hcz21_8
    try clear hcz21_9
    try clear hcz23_0
    try clear hcz23_1
    try clear hcz23_2
    try clear hcz23_3
    try clear hcz23_4
    try clear hcz23_5
    try clear hcz23_6
    try clear hcz23_7
    try clear hcz23_8
    try clear hcz23_9
    try clear hcz24_0
    try clear hcz24_1
    try clear hcz24_2
    try clear hcz24_3
    try clear hcz24_4
    try clear hcz24_5
    try clear hcz24_6
    try clear hcz24_7
    try clear hcz24_8
    try clear hcz24_9
    try clear hfz11_0
    try clear hfz11_1
    try clear hfz11_2
    try clear hfz11_3
    try clear hfz11_4
    try clear hfz11_5
    try clear hfz11_6
    try clear hfz11_7
    try clear hfz11_8
    try clear hfz11_9
    try clear hfz12_0
    try clear hfz12_1
    try clear hfz12_2
    try clear hfz12_3
    try clear hfz12_4
    try clear hfz12_5
    try clear hfz12_6
    try clear hfz12_7
    try clear hfz12_8
    try clear hfz12_9
    try clear hfz14_0
    try clear hfz14_1
    try clear hfz14_2
    try clear hfz14_3
    try clear hfz14_4
    try clear hfz14_5
    try clear hfz14_6
    try clear hfz14_7
    try clear hfz14_8
    try clear hfz14_9
    try clear hfz15_0
    try clear hfz15_1
    try clear hfz15_2
    try clear hfz15_3
    try clear hfz15_4
    try clear hfz15_5
    try clear hfz15_6
    try clear hfz15_7
    try clear hfz15_8
    try clear hfz15_9
    try clear hfz17_0
    try clear hfz17_1
    try clear hfz17_2
    try clear hfz17_3
    try clear hfz17_4
    try clear hfz17_5
    try clear hfz17_6
    try clear hfz17_7
    try clear hfz17_8
    try clear hfz17_9
    try clear hfz18_0
    try clear hfz18_1
    try clear hfz18_2
    try clear hfz18_3
    try clear hfz18_4
    try clear hfz18_5
    try clear hfz18_6
    try clear hfz18_7
    try clear hfz18_8
    try clear hfz18_9
    try clear hfz20_0
    try clear hfz20_1
    try clear hfz20_2
    try clear hfz20_3
    try clear hfz20_4
    try clear hfz20_5
    try clear hfz20_6
    try clear hfz20_7
    try clear hfz20_8
    try clear hfz20_9
    try clear hfz21_0
    try clear hfz21_1
    try clear hfz21_2
    try clear hfz21_3
    try clear hfz21_4
    try clear hfz21_5
    try clear hfz21_6
    try clear hfz21_7
    try clear hfz21_8
    try clear hfz21_9
    try clear hfz23_0
    try clear hfz23_1
    try clear hfz23_2
    try clear hfz23_3
    try clear hfz23_4
    try clear hfz23_5
    try clear hfz23_6
    try clear hfz23_7
    try clear hfz23_8
    try clear hfz23_9
    try clear hfz24_0
    try clear hfz24_1
    try clear hfz24_2
    try clear hfz24_3
    try clear hfz24_4
    try clear hfz24_5
    try clear hfz24_6
    try clear hfz24_7
    try clear hfz24_8
    try clear hfz24_9
    obtain ⟨kq, x5_2, rfl, HA, HJ2, BK226, BK227, HB⟩ := hcut
    cases kq with
    | zero => exact absurd HA.out (by simp [stratumref07_Same.j0])
    | succ kj2 =>
      have H := HA.out
      clear HA
      simp only [stratumref07_Same.j0] at H
      by_cases c25 : x5_2 = true
      · subst c25
        have H1 : ((stratumref07_SameInts.f kj2 l0_3 l1_3).bind fun t228 => (if t228 = true then ((stratumref07_SameFacts.f kj2 l0_4 l1_4).bind fun t229 => (if t229 = true then ((stratumref07_SameMap.f kj2 a0_5 l0_6 a1_5 l1_6).bind fun t230 => (if t230 = true then ((stratumref07_SameEntries.f l0_9 l1_9).bind fun t231 => (some t231)) else (some false))) else (some false))) else (some false))) = some r := by rw [if_pos rfl] at H; exact H
        clear H
        have H := H1
        clear H1
        replace H := Option.bind_eq_some_iff.mp H
        obtain ⟨t228, A260, H⟩ := H
        replace H : (if t228 = true then ((stratumref07_SameFacts.f kj2 l0_4 l1_4).bind fun t229 => (if t229 = true then ((stratumref07_SameMap.f kj2 a0_5 l0_6 a1_5 l1_6).bind fun t230 => (if t230 = true then ((stratumref07_SameEntries.f l0_9 l1_9).bind fun t231 => (some t231)) else (some false))) else (some false))) else (some false)) = some r := H
        have A26 := iD.mk A260
        clear A260
        by_cases c27 : t228 = true
        · subst c27
          have H1 : ((stratumref07_SameFacts.f kj2 l0_4 l1_4).bind fun t229 => (if t229 = true then ((stratumref07_SameMap.f kj2 a0_5 l0_6 a1_5 l1_6).bind fun t230 => (if t230 = true then ((stratumref07_SameEntries.f l0_9 l1_9).bind fun t231 => (some t231)) else (some false))) else (some false))) = some r := by rw [if_pos rfl] at H; exact H
          clear H
          have H := H1
          clear H1
          replace H := Option.bind_eq_some_iff.mp H
          obtain ⟨t229, A280, H⟩ := H
          replace H : (if t229 = true then ((stratumref07_SameMap.f kj2 a0_5 l0_6 a1_5 l1_6).bind fun t230 => (if t230 = true then ((stratumref07_SameEntries.f l0_9 l1_9).bind fun t231 => (some t231)) else (some false))) else (some false)) = some r := H
          have A28 := iD.mk A280
          clear A280
          by_cases c29 : t229 = true
          · subst c29
            have H1 : ((stratumref07_SameMap.f kj2 a0_5 l0_6 a1_5 l1_6).bind fun t230 => (if t230 = true then ((stratumref07_SameEntries.f l0_9 l1_9).bind fun t231 => (some t231)) else (some false))) = some r := by rw [if_pos rfl] at H; exact H
            clear H
            have H := H1
            clear H1
            replace H := Option.bind_eq_some_iff.mp H
            obtain ⟨t230, A300, H⟩ := H
            replace H : (if t230 = true then ((stratumref07_SameEntries.f l0_9 l1_9).bind fun t231 => (some t231)) else (some false)) = some r := H
            have A30 := iD.mk A300
            clear A300
            by_cases c31 : t230 = true
            · subst c31
              have H1 : ((stratumref07_SameEntries.f l0_9 l1_9).bind fun t231 => (some t231)) = some r := by rw [if_pos rfl] at H; exact H
              clear H
              have H := H1
              clear H1
              replace H := Option.bind_eq_some_iff.mp H
              obtain ⟨t231, A320, H⟩ := H
              replace H : (some t231) = some r := H
              have A32 := iD.mk A320
              clear A320
              obtain rfl := Option.some.inj H
              have hnb33 := NB226_227.out
              have hnc33 := NB227_226.out
              have hcz34_0 : wc.cell? ⟨gb226, 0, none⟩ = some (.int .u8 a0_0) := (iE BK226.out 0).trans rfl
              have hcz34_1 : wc.cell? ⟨gb226, 1, none⟩ = some (.int .u32 a0_1) := (iE BK226.out 1).trans rfl
              have hcz34_2 : wc.cell? ⟨gb226, 2, none⟩ = some (.int .u32 a0_2) := (iE BK226.out 2).trans rfl
              have hcz34_3 : wc.cell? ⟨gb226, 3, none⟩ = some (.slice A0_3 l0_3.length c0_3) := (iE BK226.out 3).trans rfl
              have hcz34_4 : wc.cell? ⟨gb226, 4, none⟩ = some (.slice A0_4 l0_4.length c0_4) := (iE BK226.out 4).trans rfl
              have hcz34_5 : wc.cell? ⟨gb226, 5, none⟩ = some (.int .u32 a0_5) := (iE BK226.out 5).trans rfl
              have hcz34_6 : wc.cell? ⟨gb226, 6, none⟩ = some (.slice A0_6 l0_6.length c0_6) := (iE BK226.out 6).trans rfl
              have hcz34_7 : wc.cell? ⟨gb226, 7, none⟩ = some (.int .i64 a0_7) := (iE BK226.out 7).trans rfl
              have hcz34_8 : wc.cell? ⟨gb226, 8, none⟩ = some (.int .i64 a0_8) := (iE BK226.out 8).trans rfl
              have hcz34_9 : wc.cell? ⟨gb226, 9, none⟩ = some (.slice A0_9 l0_9.length c0_9) := (iE BK226.out 9).trans rfl
              have hfz34_0 := iC BK226.out 0
              have hfz34_1 := iC BK226.out 1
              have hfz34_2 := iC BK226.out 2
              have hfz34_3 := iC BK226.out 3
              have hfz34_4 := iC BK226.out 4
              have hfz34_5 := iC BK226.out 5
              have hfz34_6 := iC BK226.out 6
              have hfz34_7 := iC BK226.out 7
              have hfz34_8 := iC BK226.out 8
              have hfz34_9 := iC BK226.out 9
              have hcz35_0 : wc.cell? ⟨gb227, 0, none⟩ = some (.int .u8 a1_0) := (iE BK227.out 0).trans rfl
              have hcz35_1 : wc.cell? ⟨gb227, 1, none⟩ = some (.int .u32 a1_1) := (iE BK227.out 1).trans rfl
              have hcz35_2 : wc.cell? ⟨gb227, 2, none⟩ = some (.int .u32 a1_2) := (iE BK227.out 2).trans rfl
              have hcz35_3 : wc.cell? ⟨gb227, 3, none⟩ = some (.slice A1_3 l1_3.length c1_3) := (iE BK227.out 3).trans rfl
              have hcz35_4 : wc.cell? ⟨gb227, 4, none⟩ = some (.slice A1_4 l1_4.length c1_4) := (iE BK227.out 4).trans rfl
              have hcz35_5 : wc.cell? ⟨gb227, 5, none⟩ = some (.int .u32 a1_5) := (iE BK227.out 5).trans rfl
              have hcz35_6 : wc.cell? ⟨gb227, 6, none⟩ = some (.slice A1_6 l1_6.length c1_6) := (iE BK227.out 6).trans rfl
              have hcz35_7 : wc.cell? ⟨gb227, 7, none⟩ = some (.int .i64 a1_7) := (iE BK227.out 7).trans rfl
              have hcz35_8 : wc.cell? ⟨gb227, 8, none⟩ = some (.int .i64 a1_8) := (iE BK227.out 8).trans rfl
              have hcz35_9 : wc.cell? ⟨gb227, 9, none⟩ = some (.slice A1_9 l1_9.length c1_9) := (iE BK227.out 9).trans rfl
              have hfz35_0 := iC BK227.out 0
              have hfz35_1 := iC BK227.out 1
              have hfz35_2 := iC BK227.out 2
              have hfz35_3 := iC BK227.out 3
              have hfz35_4 := iC BK227.out 4
              have hfz35_5 := iC BK227.out 5
              have hfz35_6 := iC BK227.out 6
              have hfz35_7 := iC BK227.out 7
              have hfz35_8 := iC BK227.out 8
              have hfz35_9 := iC BK227.out 9
              go_wp2_with (first | (go_at_call 35; (with_reducible refine (stratumref07_SameInts.calls kj2 _ _ l0_3 _ _ l1_3 true _ ?side1 ?side2 ?side3 ?side4 A26.out).mono ?_); (case side1 => repeat (first | exact (Kd.C_below HR0_3.out HB.out) | (with_reducible refine Kd.C_alloc ?_ _) | (with_reducible refine Kd.C_drewN ?_ _) | (with_reducible refine Kd.C_drew ?_))); (case side2 => exact HC0_3.out); (case side3 => repeat (first | exact (Kd.C_below HR1_3.out HB.out) | (with_reducible refine Kd.C_alloc ?_ _) | (with_reducible refine Kd.C_drewN ?_ _) | (with_reducible refine Kd.C_drew ?_))); (case side4 => exact HC1_3.out); rintro e w' ⟨rfl, ⟨nd, rfl⟩⟩) | (go_at_call 76; (with_reducible refine (stratumref07_SameFacts.calls kj2 _ _ l0_4 _ _ l1_4 true _ ?side1 ?side2 ?side3 ?side4 A28.out).mono ?_); (case side1 => repeat (first | exact (Kd.C_below HR0_4.out (by repeat (first | (with_reducible first | exact HB.out | apply iF | apply iG | apply iJ | refine iH ?_ GE226.out | refine iH ?_ GE227.out) | exact HB.out))) | (with_reducible refine Kd.C_alloc ?_ _) | (with_reducible refine Kd.C_drewN ?_ _) | (with_reducible refine Kd.C_drew ?_))); (case side2 => exact HC0_4.out); (case side3 => repeat (first | exact (Kd.C_below HR1_4.out (by repeat (first | (with_reducible first | exact HB.out | apply iF | apply iG | apply iJ | refine iH ?_ GE226.out | refine iH ?_ GE227.out) | exact HB.out))) | (with_reducible refine Kd.C_alloc ?_ _) | (with_reducible refine Kd.C_drewN ?_ _) | (with_reducible refine Kd.C_drew ?_))); (case side4 => exact HC1_4.out); rintro e w36 ⟨rfl, hb⟩; have n0_ := iD.mk (jR (g := gb226) (o := .cells #[.int .u8 a0_0, .int .u32 a0_1, .int .u32 a0_2, .slice A0_3 l0_3.length c0_3, .slice A0_4 l0_4.length c0_4, .int .u32 a0_5, .slice A0_6 l0_6.length c0_6, .int .i64 a0_7, .int .i64 a0_8, .slice A0_9 l0_9.length c0_9] 30 (0, 0)) (bk_ BK226.out) hb); have n1_ := iD.mk (jR (g := gb227) (o := .cells #[.int .u8 a1_0, .int .u32 a1_1, .int .u32 a1_2, .slice A1_3 l1_3.length c1_3, .slice A1_4 l1_4.length c1_4, .int .u32 a1_5, .slice A1_6 l1_6.length c1_6, .int .i64 a1_7, .int .i64 a1_8, .slice A1_9 l1_9.length c1_9] 30 (0, 0)) (bk_ BK227.out) hb); have n2_ := iD.mk (iL (by repeat (first | (with_reducible first | exact HB.out | apply iF | apply iG | apply iJ | refine iH ?_ GE226.out | refine iH ?_ GE227.out) | exact HB.out)) hb); clear BK226; clear BK227; clear HB; have BK226 := n0_; have BK227 := n1_; have HB := n2_; clear n0_ n1_ n2_; (try clear hb); (try clear hb2); (try clear hk); (try clear hi); have hcz37_0 : w36.cell? ⟨gb226, 0, none⟩ = some (.int .u8 a0_0) := (iE BK226.out 0).trans rfl; have hcz37_1 : w36.cell? ⟨gb226, 1, none⟩ = some (.int .u32 a0_1) := (iE BK226.out 1).trans rfl; have hcz37_2 : w36.cell? ⟨gb226, 2, none⟩ = some (.int .u32 a0_2) := (iE BK226.out 2).trans rfl; have hcz37_3 : w36.cell? ⟨gb226, 3, none⟩ = some (.slice A0_3 l0_3.length c0_3) := (iE BK226.out 3).trans rfl; have hcz37_4 : w36.cell? ⟨gb226, 4, none⟩ = some (.slice A0_4 l0_4.length c0_4) := (iE BK226.out 4).trans rfl; have hcz37_5 : w36.cell? ⟨gb226, 5, none⟩ = some (.int .u32 a0_5) := (iE BK226.out 5).trans rfl; have hcz37_6 : w36.cell? ⟨gb226, 6, none⟩ = some (.slice A0_6 l0_6.length c0_6) := (iE BK226.out 6).trans rfl; have hcz37_7 : w36.cell? ⟨gb226, 7, none⟩ = some (.int .i64 a0_7) := (iE BK226.out 7).trans rfl; have hcz37_8 : w36.cell? ⟨gb226, 8, none⟩ = some (.int .i64 a0_8) := (iE BK226.out 8).trans rfl; have hcz37_9 : w36.cell? ⟨gb226, 9, none⟩ = some (.slice A0_9 l0_9.length c0_9) := (iE BK226.out 9).trans rfl; have hfz37_0 := iC BK226.out 0; have hfz37_1 := iC BK226.out 1; have hfz37_2 := iC BK226.out 2; have hfz37_3 := iC BK226.out 3; have hfz37_4 := iC BK226.out 4; have hfz37_5 := iC BK226.out 5; have hfz37_6 := iC BK226.out 6; have hfz37_7 := iC BK226.out 7; have hfz37_8 := iC BK226.out 8; have hfz37_9 := iC BK226.out 9; have hcz38_0 : w36.cell? ⟨gb227, 0, none⟩ = some (.int .u8 a1_0) := (iE BK227.out 0).trans rfl; have hcz38_1 : w36.cell? ⟨gb227, 1, none⟩ = some (.int .u32 a1_1) := (iE BK227.out 1).trans rfl; have hcz38_2 : w36.cell? ⟨gb227, 2, none⟩ = some (.int .u32 a1_2) := (iE BK227.out 2).trans rfl; have hcz38_3 : w36.cell? ⟨gb227, 3, none⟩ = some (.slice A1_3 l1_3.length c1_3) := (iE BK227.out 3).trans rfl; have hcz38_4 : w36.cell? ⟨gb227, 4, none⟩ = some (.slice A1_4 l1_4.length c1_4) := (iE BK227.out 4).trans rfl; have hcz38_5 : w36.cell? ⟨gb227, 5, none⟩ = some (.int .u32 a1_5) := (iE BK227.out 5).trans rfl; have hcz38_6 : w36.cell? ⟨gb227, 6, none⟩ = some (.slice A1_6 l1_6.length c1_6) := (iE BK227.out 6).trans rfl; have hcz38_7 : w36.cell? ⟨gb227, 7, none⟩ = some (.int .i64 a1_7) := (iE BK227.out 7).trans rfl; have hcz38_8 : w36.cell? ⟨gb227, 8, none⟩ = some (.int .i64 a1_8) := (iE BK227.out 8).trans rfl; have hcz38_9 : w36.cell? ⟨gb227, 9, none⟩ = some (.slice A1_9 l1_9.length c1_9) := (iE BK227.out 9).trans rfl; have hfz38_0 := iC BK227.out 0; have hfz38_1 := iC BK227.out 1; have hfz38_2 := iC BK227.out 2; have hfz38_3 := iC BK227.out 3; have hfz38_4 := iC BK227.out 4; have hfz38_5 := iC BK227.out 5; have hfz38_6 := iC BK227.out 6; have hfz38_7 := iC BK227.out 7; have hfz38_8 := iC BK227.out 8; have hfz38_9 := iC BK227.out 9) | (go_at_call 77; (with_reducible refine (stratumref07_SameMap.calls kj2 a0_5 _ _ l0_6 a1_5 _ _ l1_6 true _ ?side1 ?side2 ?side3 ?side4 A30.out).mono ?_); (case side1 => repeat (first | exact (Kd.C_below HR0_6.out HB.out) | (with_reducible refine Kd.C_alloc ?_ _) | (with_reducible refine Kd.C_drewN ?_ _) | (with_reducible refine Kd.C_drew ?_))); (case side2 => exact HC0_6.out); (case side3 => repeat (first | exact (Kd.C_below HR1_6.out HB.out) | (with_reducible refine Kd.C_alloc ?_ _) | (with_reducible refine Kd.C_drewN ?_ _) | (with_reducible refine Kd.C_drew ?_))); (case side4 => exact HC1_6.out); rintro e w39 ⟨rfl, hb⟩; have n0_ := iD.mk (jR (g := gb226) (o := .cells #[.int .u8 a0_0, .int .u32 a0_1, .int .u32 a0_2, .slice A0_3 l0_3.length c0_3, .slice A0_4 l0_4.length c0_4, .int .u32 a0_5, .slice A0_6 l0_6.length c0_6, .int .i64 a0_7, .int .i64 a0_8, .slice A0_9 l0_9.length c0_9] 30 (0, 0)) (bk_ BK226.out) hb); have n1_ := iD.mk (jR (g := gb227) (o := .cells #[.int .u8 a1_0, .int .u32 a1_1, .int .u32 a1_2, .slice A1_3 l1_3.length c1_3, .slice A1_4 l1_4.length c1_4, .int .u32 a1_5, .slice A1_6 l1_6.length c1_6, .int .i64 a1_7, .int .i64 a1_8, .slice A1_9 l1_9.length c1_9] 30 (0, 0)) (bk_ BK227.out) hb); have n2_ := iD.mk (iL (by repeat (first | (with_reducible first | exact HB.out | apply iF | apply iG | apply iJ | refine iH ?_ GE226.out | refine iH ?_ GE227.out) | exact HB.out)) hb); clear BK226; clear BK227; clear HB; have BK226 := n0_; have BK227 := n1_; have HB := n2_; clear n0_ n1_ n2_; (try clear hb); (try clear hb2); (try clear hk); (try clear hi); have hcz40_0 : w39.cell? ⟨gb226, 0, none⟩ = some (.int .u8 a0_0) := (iE BK226.out 0).trans rfl; have hcz40_1 : w39.cell? ⟨gb226, 1, none⟩ = some (.int .u32 a0_1) := (iE BK226.out 1).trans rfl; have hcz40_2 : w39.cell? ⟨gb226, 2, none⟩ = some (.int .u32 a0_2) := (iE BK226.out 2).trans rfl; have hcz40_3 : w39.cell? ⟨gb226, 3, none⟩ = some (.slice A0_3 l0_3.length c0_3) := (iE BK226.out 3).trans rfl; have hcz40_4 : w39.cell? ⟨gb226, 4, none⟩ = some (.slice A0_4 l0_4.length c0_4) := (iE BK226.out 4).trans rfl; have hcz40_5 : w39.cell? ⟨gb226, 5, none⟩ = some (.int .u32 a0_5) := (iE BK226.out 5).trans rfl; have hcz40_6 : w39.cell? ⟨gb226, 6, none⟩ = some (.slice A0_6 l0_6.length c0_6) := (iE BK226.out 6).trans rfl; have hcz40_7 : w39.cell? ⟨gb226, 7, none⟩ = some (.int .i64 a0_7) := (iE BK226.out 7).trans rfl; have hcz40_8 : w39.cell? ⟨gb226, 8, none⟩ = some (.int .i64 a0_8) := (iE BK226.out 8).trans rfl; have hcz40_9 : w39.cell? ⟨gb226, 9, none⟩ = some (.slice A0_9 l0_9.length c0_9) := (iE BK226.out 9).trans rfl; have hfz40_0 := iC BK226.out 0; have hfz40_1 := iC BK226.out 1; have hfz40_2 := iC BK226.out 2; have hfz40_3 := iC BK226.out 3; have hfz40_4 := iC BK226.out 4; have hfz40_5 := iC BK226.out 5; have hfz40_6 := iC BK226.out 6; have hfz40_7 := iC BK226.out 7; have hfz40_8 := iC BK226.out 8; have hfz40_9 := iC BK226.out 9; have hcz41_0 : w39.cell? ⟨gb227, 0, none⟩ = some (.int .u8 a1_0) := (iE BK227.out 0).trans rfl; have hcz41_1 : w39.cell? ⟨gb227, 1, none⟩ = some (.int .u32 a1_1) := (iE BK227.out 1).trans rfl; have hcz41_2 : w39.cell? ⟨gb227, 2, none⟩ = some (.int .u32 a1_2) := (iE BK227.out 2).trans rfl; have hcz41_3 : w39.cell? ⟨gb227, 3, none⟩ = some (.slice A1_3 l1_3.length c1_3) := (iE BK227.out 3).trans rfl; have hcz41_4 : w39.cell? ⟨gb227, 4, none⟩ = some (.slice A1_4 l1_4.length c1_4) := (iE BK227.out 4).trans rfl; have hcz41_5 : w39.cell? ⟨gb227, 5, none⟩ = some (.int .u32 a1_5) := (iE BK227.out 5).trans rfl; have hcz41_6 : w39.cell? ⟨gb227, 6, none⟩ = some (.slice A1_6 l1_6.length c1_6) := (iE BK227.out 6).trans rfl; have hcz41_7 : w39.cell? ⟨gb227, 7, none⟩ = some (.int .i64 a1_7) := (iE BK227.out 7).trans rfl; have hcz41_8 : w39.cell? ⟨gb227, 8, none⟩ = some (.int .i64 a1_8) := (iE BK227.out 8).trans rfl; have hcz41_9 : w39.cell? ⟨gb227, 9, none⟩ = some (.slice A1_9 l1_9.length c1_9) := (iE BK227.out 9).trans rfl; have hfz41_0 := iC BK227.out 0; have hfz41_1 := iC BK227.out 1; have hfz41_2 := iC BK227.out 2; have hfz41_3 := iC BK227.out 3; have hfz41_4 := iC BK227.out 4; have hfz41_5 := iC BK227.out 5; have hfz41_6 := iC BK227.out 6; have hfz41_7 := iC BK227.out 7; have hfz41_8 := iC BK227.out 8; have hfz41_9 := iC BK227.out 9) | (go_at_call 78; (with_reducible refine (stratumref07_SameEntries.calls _ _ l0_9 _ _ l1_9 t231 _ ?side1 ?side2 ?side3 ?side4 A32.out).mono ?_); (case side1 => repeat (first | exact (Kd.C_below HR0_9.out HB.out) | (with_reducible refine Kd.C_alloc ?_ _) | (with_reducible refine Kd.C_drewN ?_ _) | (with_reducible refine Kd.C_drew ?_))); (case side2 => exact HC0_9.out); (case side3 => repeat (first | exact (Kd.C_below HR1_9.out HB.out) | (with_reducible refine Kd.C_alloc ?_ _) | (with_reducible refine Kd.C_drewN ?_ _) | (with_reducible refine Kd.C_drew ?_))); (case side4 => exact HC1_9.out); rintro e w42 ⟨rfl, hb⟩; have n0_ := iD.mk (jR (g := gb226) (o := .cells #[.int .u8 a0_0, .int .u32 a0_1, .int .u32 a0_2, .slice A0_3 l0_3.length c0_3, .slice A0_4 l0_4.length c0_4, .int .u32 a0_5, .slice A0_6 l0_6.length c0_6, .int .i64 a0_7, .int .i64 a0_8, .slice A0_9 l0_9.length c0_9] 30 (0, 0)) (bk_ BK226.out) hb); have n1_ := iD.mk (jR (g := gb227) (o := .cells #[.int .u8 a1_0, .int .u32 a1_1, .int .u32 a1_2, .slice A1_3 l1_3.length c1_3, .slice A1_4 l1_4.length c1_4, .int .u32 a1_5, .slice A1_6 l1_6.length c1_6, .int .i64 a1_7, .int .i64 a1_8, .slice A1_9 l1_9.length c1_9] 30 (0, 0)) (bk_ BK227.out) hb); have n2_ := iD.mk (iL (by repeat (first | (with_reducible first | exact HB.out | apply iF | apply iG | apply iJ | refine iH ?_ GE226.out | refine iH ?_ GE227.out) | exact HB.out)) hb); clear BK226; clear BK227; clear HB; have BK226 := n0_; have BK227 := n1_; have HB := n2_; clear n0_ n1_ n2_; (try clear hb); (try clear hb2); (try clear hk); (try clear hi)))
              go_ret
              exact ⟨by first | rfl | (simp [iW, iV] <;> rfl) | (simp [*, iW, iV] <;> rfl), by repeat (first | (with_reducible first | exact HB.out | apply iF | apply iG | apply iJ | refine iH ?_ GE226.out | refine iH ?_ GE227.out) | exact HB.out)⟩
            · replace c31 := Bool.eq_false_iff.mpr c31
              subst c31
              have H1 : (some false) = some r := by rw [if_neg (show ¬ (false = true) by decide)] at H; exact H
              clear H
              have H := H1
              clear H1
              obtain rfl := Option.some.inj H
              have hnb43 := NB226_227.out
              have hnc43 := NB227_226.out
              have hcz44_0 : wc.cell? ⟨gb226, 0, none⟩ = some (.int .u8 a0_0) := (iE BK226.out 0).trans rfl
              have hcz44_1 : wc.cell? ⟨gb226, 1, none⟩ = some (.int .u32 a0_1) := (iE BK226.out 1).trans rfl
              have hcz44_2 : wc.cell? ⟨gb226, 2, none⟩ = some (.int .u32 a0_2) := (iE BK226.out 2).trans rfl
              have hcz44_3 : wc.cell? ⟨gb226, 3, none⟩ = some (.slice A0_3 l0_3.length c0_3) := (iE BK226.out 3).trans rfl
              have hcz44_4 : wc.cell? ⟨gb226, 4, none⟩ = some (.slice A0_4 l0_4.length c0_4) := (iE BK226.out 4).trans rfl
              have hcz44_5 : wc.cell? ⟨gb226, 5, none⟩ = some (.int .u32 a0_5) := (iE BK226.out 5).trans rfl
              have hcz44_6 : wc.cell? ⟨gb226, 6, none⟩ = some (.slice A0_6 l0_6.length c0_6) := (iE BK226.out 6).trans rfl
              have hcz44_7 : wc.cell? ⟨gb226, 7, none⟩ = some (.int .i64 a0_7) := (iE BK226.out 7).trans rfl
              have hcz44_8 : wc.cell? ⟨gb226, 8, none⟩ = some (.int .i64 a0_8) := (iE BK226.out 8).trans rfl
              have hcz44_9 : wc.cell? ⟨gb226, 9, none⟩ = some (.slice A0_9 l0_9.length c0_9) := (iE BK226.out 9).trans rfl
              have hfz44_0 := iC BK226.out 0
              have hfz44_1 := iC BK226.out 1
              have hfz44_2 := iC BK226.out 2
              have hfz44_3 := iC BK226.out 3
              have hfz44_4 := iC BK226.out 4
              have hfz44_5 := iC BK226.out 5
              have hfz44_6 := iC BK226.out 6
              have hfz44_7 := iC BK226.out 7
              have hfz44_8 := iC BK226.out 8
              have hfz44_9 := iC BK226.out 9
              have hcz45_0 : wc.cell? ⟨gb227, 0, none⟩ = some (.int .u8 a1_0) := (iE BK227.out 0).trans rfl
              have hcz45_1 : wc.cell? ⟨gb227, 1, none⟩ = some (.int .u32 a1_1) := (iE BK227.out 1).trans rfl
              have hcz45_2 : wc.cell? ⟨gb227, 2, none⟩ = some (.int .u32 a1_2) := (iE BK227.out 2).trans rfl
              have hcz45_3 : wc.cell? ⟨gb227, 3, none⟩ = some (.slice A1_3 l1_3.length c1_3) := (iE BK227.out 3).trans rfl
              have hcz45_4 : wc.cell? ⟨gb227, 4, none⟩ = some (.slice A1_4 l1_4.length c1_4) := (iE BK227.out 4).trans rfl
              have hcz45_5 : wc.cell? ⟨gb227, 5, none⟩ = some (.int .u32 a1_5) := (iE BK227.out 5).trans rfl
              have hcz45_6 : wc.cell? ⟨gb227, 6, none⟩ = some (.slice A1_6 l1_6.length c1_6) := (iE BK227.out 6).trans rfl
              have hcz45_7 : wc.cell? ⟨gb227, 7, none⟩ = some (.int .i64 a1_7) := (iE BK227.out 7).trans rfl
              have hcz45_8 : wc.cell? ⟨gb227, 8, none⟩ = some (.int .i64 a1_8) := (iE BK227.out 8).trans rfl
              have hcz45_9 : wc.cell? ⟨gb227, 9, none⟩ = some (.slice A1_9 l1_9.length c1_9) := (iE BK227.out 9).trans rfl
              have hfz45_0 := iC BK227.out 0
              have hfz45_1 := iC BK227.out 1
              have hfz45_2 := iC BK227.out 2
              have hfz45_3 := iC BK227.out 3
              have hfz45_4 := iC BK227.out 4
              have hfz45_5 := iC BK227.out 5
              have hfz45_6 := iC BK227.out 6
              have hfz45_7 := iC BK227.out 7
              have hfz45_8 := iC BK227.out 8
              have hfz45_9 := iC BK227.out 9
              go_wp2_with (first | (go_at_call 35; (with_reducible refine (stratumref07_SameInts.calls kj2 _ _ l0_3 _ _ l1_3 true _ ?side1 ?side2 ?side3 ?side4 A26.out).mono ?_); (case side1 => repeat (first | exact (Kd.C_below HR0_3.out HB.out) | (with_reducible refine Kd.C_alloc ?_ _) | (with_reducible refine Kd.C_drewN ?_ _) | (with_reducible refine Kd.C_drew ?_))); (case side2 => exact HC0_3.out); (case side3 => repeat (first | exact (Kd.C_below HR1_3.out HB.out) | (with_reducible refine Kd.C_alloc ?_ _) | (with_reducible refine Kd.C_drewN ?_ _) | (with_reducible refine Kd.C_drew ?_))); (case side4 => exact HC1_3.out); rintro e w' ⟨rfl, ⟨nd, rfl⟩⟩) | (go_at_call 76; (with_reducible refine (stratumref07_SameFacts.calls kj2 _ _ l0_4 _ _ l1_4 true _ ?side1 ?side2 ?side3 ?side4 A28.out).mono ?_); (case side1 => repeat (first | exact (Kd.C_below HR0_4.out (by repeat (first | (with_reducible first | exact HB.out | apply iF | apply iG | apply iJ | refine iH ?_ GE226.out | refine iH ?_ GE227.out) | exact HB.out))) | (with_reducible refine Kd.C_alloc ?_ _) | (with_reducible refine Kd.C_drewN ?_ _) | (with_reducible refine Kd.C_drew ?_))); (case side2 => exact HC0_4.out); (case side3 => repeat (first | exact (Kd.C_below HR1_4.out (by repeat (first | (with_reducible first | exact HB.out | apply iF | apply iG | apply iJ | refine iH ?_ GE226.out | refine iH ?_ GE227.out) | exact HB.out))) | (with_reducible refine Kd.C_alloc ?_ _) | (with_reducible refine Kd.C_drewN ?_ _) | (with_reducible refine Kd.C_drew ?_))); (case side4 => exact HC1_4.out); rintro e w46 ⟨rfl, hb⟩; have n0_ := iD.mk (jR (g := gb226) (o := .cells #[.int .u8 a0_0, .int .u32 a0_1, .int .u32 a0_2, .slice A0_3 l0_3.length c0_3, .slice A0_4 l0_4.length c0_4, .int .u32 a0_5, .slice A0_6 l0_6.length c0_6, .int .i64 a0_7, .int .i64 a0_8, .slice A0_9 l0_9.length c0_9] 30 (0, 0)) (bk_ BK226.out) hb); have n1_ := iD.mk (jR (g := gb227) (o := .cells #[.int .u8 a1_0, .int .u32 a1_1, .int .u32 a1_2, .slice A1_3 l1_3.length c1_3, .slice A1_4 l1_4.length c1_4, .int .u32 a1_5, .slice A1_6 l1_6.length c1_6, .int .i64 a1_7, .int .i64 a1_8, .slice A1_9 l1_9.length c1_9] 30 (0, 0)) (bk_ BK227.out) hb); have n2_ := iD.mk (iL (by repeat (first | (with_reducible first | exact HB.out | apply iF | apply iG | apply iJ | refine iH ?_ GE226.out | refine iH ?_ GE227.out) | exact HB.out)) hb); clear BK226; clear BK227; clear HB; have BK226 := n0_; have BK227 := n1_; have HB := n2_; clear n0_ n1_ n2_; (try clear hb); (try clear hb2); (try clear hk); (try clear hi); have hcz47_0 : w46.cell? ⟨gb226, 0, none⟩ = some (.int .u8 a0_0) := (iE BK226.out 0).trans rfl; have hcz47_1 : w46.cell? ⟨gb226, 1, none⟩ = some (.int .u32 a0_1) := (iE BK226.out 1).trans rfl; have hcz47_2 : w46.cell? ⟨gb226, 2, none⟩ = some (.int .u32 a0_2) := (iE BK226.out 2).trans rfl; have hcz47_3 : w46.cell? ⟨gb226, 3, none⟩ = some (.slice A0_3 l0_3.length c0_3) := (iE BK226.out 3).trans rfl; have hcz47_4 : w46.cell? ⟨gb226, 4, none⟩ = some (.slice A0_4 l0_4.length c0_4) := (iE BK226.out 4).trans rfl; have hcz47_5 : w46.cell? ⟨gb226, 5, none⟩ = some (.int .u32 a0_5) := (iE BK226.out 5).trans rfl; have hcz47_6 : w46.cell? ⟨gb226, 6, none⟩ = some (.slice A0_6 l0_6.length c0_6) := (iE BK226.out 6).trans rfl; have hcz47_7 : w46.cell? ⟨gb226, 7, none⟩ = some (.int .i64 a0_7) := (iE BK226.out 7).trans rfl; have hcz47_8 : w46.cell? ⟨gb226, 8, none⟩ = some (.int .i64 a0_8) := (iE BK226.out 8).trans rfl; have hcz47_9 : w46.cell? ⟨gb226, 9, none⟩ = some (.slice A0_9 l0_9.length c0_9) := (iE BK226.out 9).trans rfl; have hfz47_0 := iC BK226.out 0; have hfz47_1 := iC BK226.out 1; have hfz47_2 := iC BK226.out 2; have hfz47_3 := iC BK226.out 3; have hfz47_4 := iC BK226.out 4; have hfz47_5 := iC BK226.out 5; have hfz47_6 := iC BK226.out 6; have hfz47_7 := iC BK226.out 7; have hfz47_8 := iC BK226.out 8; have hfz47_9 := iC BK226.out 9; have hcz48_0 : w46.cell? ⟨gb227, 0, none⟩ = some (.int .u8 a1_0) := (iE BK227.out 0).trans rfl; have hcz48_1 : w46.cell? ⟨gb227, 1, none⟩ = some (.int .u32 a1_1) := (iE BK227.out 1).trans rfl; have hcz48_2 : w46.cell? ⟨gb227, 2, none⟩ = some (.int .u32 a1_2) := (iE BK227.out 2).trans rfl; have hcz48_3 : w46.cell? ⟨gb227, 3, none⟩ = some (.slice A1_3 l1_3.length c1_3) := (iE BK227.out 3).trans rfl; have hcz48_4 : w46.cell? ⟨gb227, 4, none⟩ = some (.slice A1_4 l1_4.length c1_4) := (iE BK227.out 4).trans rfl; have hcz48_5 : w46.cell? ⟨gb227, 5, none⟩ = some (.int .u32 a1_5) := (iE BK227.out 5).trans rfl; have hcz48_6 : w46.cell? ⟨gb227, 6, none⟩ = some (.slice A1_6 l1_6.length c1_6) := (iE BK227.out 6).trans rfl; have hcz48_7 : w46.cell? ⟨gb227, 7, none⟩ = some (.int .i64 a1_7) := (iE BK227.out 7).trans rfl; have hcz48_8 : w46.cell? ⟨gb227, 8, none⟩ = some (.int .i64 a1_8) := (iE BK227.out 8).trans rfl; have hcz48_9 : w46.cell? ⟨gb227, 9, none⟩ = some (.slice A1_9 l1_9.length c1_9) := (iE BK227.out 9).trans rfl; have hfz48_0 := iC BK227.out 0; have hfz48_1 := iC BK227.out 1; have hfz48_2 := iC BK227.out 2; have hfz48_3 := iC BK227.out 3; have hfz48_4 := iC BK227.out 4; have hfz48_5 := iC BK227.out 5; have hfz48_6 := iC BK227.out 6; have hfz48_7 := iC BK227.out 7; have hfz48_8 := iC BK227.out 8; have hfz48_9 := iC BK227.out 9) | (go_at_call 77; (with_reducible refine (stratumref07_SameMap.calls kj2 a0_5 _ _ l0_6 a1_5 _ _ l1_6 false _ ?side1 ?side2 ?side3 ?side4 A30.out).mono ?_); (case side1 => repeat (first | exact (Kd.C_below HR0_6.out HB.out) | (with_reducible refine Kd.C_alloc ?_ _) | (with_reducible refine Kd.C_drewN ?_ _) | (with_reducible refine Kd.C_drew ?_))); (case side2 => exact HC0_6.out); (case side3 => repeat (first | exact (Kd.C_below HR1_6.out HB.out) | (with_reducible refine Kd.C_alloc ?_ _) | (with_reducible refine Kd.C_drewN ?_ _) | (with_reducible refine Kd.C_drew ?_))); (case side4 => exact HC1_6.out); rintro e w49 ⟨rfl, hb⟩; have n0_ := iD.mk (jR (g := gb226) (o := .cells #[.int .u8 a0_0, .int .u32 a0_1, .int .u32 a0_2, .slice A0_3 l0_3.length c0_3, .slice A0_4 l0_4.length c0_4, .int .u32 a0_5, .slice A0_6 l0_6.length c0_6, .int .i64 a0_7, .int .i64 a0_8, .slice A0_9 l0_9.length c0_9] 30 (0, 0)) (bk_ BK226.out) hb); have n1_ := iD.mk (jR (g := gb227) (o := .cells #[.int .u8 a1_0, .int .u32 a1_1, .int .u32 a1_2, .slice A1_3 l1_3.length c1_3, .slice A1_4 l1_4.length c1_4, .int .u32 a1_5, .slice A1_6 l1_6.length c1_6, .int .i64 a1_7, .int .i64 a1_8, .slice A1_9 l1_9.length c1_9] 30 (0, 0)) (bk_ BK227.out) hb); have n2_ := iD.mk (iL (by repeat (first | (with_reducible first | exact HB.out | apply iF | apply iG | apply iJ | refine iH ?_ GE226.out | refine iH ?_ GE227.out) | exact HB.out)) hb); clear BK226; clear BK227; clear HB; have BK226 := n0_; have BK227 := n1_; have HB := n2_; clear n0_ n1_ n2_; (try clear hb); (try clear hb2); (try clear hk); (try clear hi)))
              go_ret
              exact ⟨by first | rfl | (simp [iW, iV] <;> rfl) | (simp [*, iW, iV] <;> rfl), by repeat (first | (with_reducible first | exact HB.out | apply iF | apply iG | apply iJ | refine iH ?_ GE226.out | refine iH ?_ GE227.out) | exact HB.out)⟩
          · replace c29 := Bool.eq_false_iff.mpr c29
            subst c29
            have H1 : (some false) = some r := by rw [if_neg (show ¬ (false = true) by decide)] at H; exact H
            clear H
            have H := H1
            clear H1
            obtain rfl := Option.some.inj H
            have hnb50 := NB226_227.out
            have hnc50 := NB227_226.out
            have hcz51_0 : wc.cell? ⟨gb226, 0, none⟩ = some (.int .u8 a0_0) := (iE BK226.out 0).trans rfl
            have hcz51_1 : wc.cell? ⟨gb226, 1, none⟩ = some (.int .u32 a0_1) := (iE BK226.out 1).trans rfl
            have hcz51_2 : wc.cell? ⟨gb226, 2, none⟩ = some (.int .u32 a0_2) := (iE BK226.out 2).trans rfl
            have hcz51_3 : wc.cell? ⟨gb226, 3, none⟩ = some (.slice A0_3 l0_3.length c0_3) := (iE BK226.out 3).trans rfl
            have hcz51_4 : wc.cell? ⟨gb226, 4, none⟩ = some (.slice A0_4 l0_4.length c0_4) := (iE BK226.out 4).trans rfl
            have hcz51_5 : wc.cell? ⟨gb226, 5, none⟩ = some (.int .u32 a0_5) := (iE BK226.out 5).trans rfl
            have hcz51_6 : wc.cell? ⟨gb226, 6, none⟩ = some (.slice A0_6 l0_6.length c0_6) := (iE BK226.out 6).trans rfl
            have hcz51_7 : wc.cell? ⟨gb226, 7, none⟩ = some (.int .i64 a0_7) := (iE BK226.out 7).trans rfl
            have hcz51_8 : wc.cell? ⟨gb226, 8, none⟩ = some (.int .i64 a0_8) := (iE BK226.out 8).trans rfl
            have hcz51_9 : wc.cell? ⟨gb226, 9, none⟩ = some (.slice A0_9 l0_9.length c0_9) := (iE BK226.out 9).trans rfl
            have hfz51_0 := iC BK226.out 0
            have hfz51_1 := iC BK226.out 1
            have hfz51_2 := iC BK226.out 2
            have hfz51_3 := iC BK226.out 3
            have hfz51_4 := iC BK226.out 4
            have hfz51_5 := iC BK226.out 5
            have hfz51_6 := iC BK226.out 6
            have hfz51_7 := iC BK226.out 7
            have hfz51_8 := iC BK226.out 8
            have hfz51_9 := iC BK226.out 9
            have hcz52_0 : wc.cell? ⟨gb227, 0, none⟩ = some (.int .u8 a1_0) := (iE BK227.out 0).trans rfl
            have hcz52_1 : wc.cell? ⟨gb227, 1, none⟩ = some (.int .u32 a1_1) := (iE BK227.out 1).trans rfl
            have hcz52_2 : wc.cell? ⟨gb227, 2, none⟩ = some (.int .u32 a1_2) := (iE BK227.out 2).trans rfl
            have hcz52_3 : wc.cell? ⟨gb227, 3, none⟩ = some (.slice A1_3 l1_3.length c1_3) := (iE BK227.out 3).trans rfl
            have hcz52_4 : wc.cell? ⟨gb227, 4, none⟩ = some (.slice A1_4 l1_4.length c1_4) := (iE BK227.out 4).trans rfl
            have hcz52_5 : wc.cell? ⟨gb227, 5, none⟩ = some (.int .u32 a1_5) := (iE BK227.out 5).trans rfl
            have hcz52_6 : wc.cell? ⟨gb227, 6, none⟩ = some (.slice A1_6 l1_6.length c1_6) := (iE BK227.out 6).trans rfl
            have hcz52_7 : wc.cell? ⟨gb227, 7, none⟩ = some (.int .i64 a1_7) := (iE BK227.out 7).trans rfl
            have hcz52_8 : wc.cell? ⟨gb227, 8, none⟩ = some (.int .i64 a1_8) := (iE BK227.out 8).trans rfl
            have hcz52_9 : wc.cell? ⟨gb227, 9, none⟩ = some (.slice A1_9 l1_9.length c1_9) := (iE BK227.out 9).trans rfl
            have hfz52_0 := iC BK227.out 0
            have hfz52_1 := iC BK227.out 1
            have hfz52_2 := iC BK227.out 2
            have hfz52_3 := iC BK227.out 3
            have hfz52_4 := iC BK227.out 4
            have hfz52_5 := iC BK227.out 5
            have hfz52_6 := iC BK227.out 6
            have hfz52_7 := iC BK227.out 7
            have hfz52_8 := iC BK227.out 8
            have hfz52_9 := iC BK227.out 9
            go_wp2_with (first | (go_at_call 35; (with_reducible refine (stratumref07_SameInts.calls kj2 _ _ l0_3 _ _ l1_3 true _ ?side1 ?side2 ?side3 ?side4 A26.out).mono ?_); (case side1 => repeat (first | exact (Kd.C_below HR0_3.out HB.out) | (with_reducible refine Kd.C_alloc ?_ _) | (with_reducible refine Kd.C_drewN ?_ _) | (with_reducible refine Kd.C_drew ?_))); (case side2 => exact HC0_3.out); (case side3 => repeat (first | exact (Kd.C_below HR1_3.out HB.out) | (with_reducible refine Kd.C_alloc ?_ _) | (with_reducible refine Kd.C_drewN ?_ _) | (with_reducible refine Kd.C_drew ?_))); (case side4 => exact HC1_3.out); rintro e w' ⟨rfl, ⟨nd, rfl⟩⟩) | (go_at_call 76; (with_reducible refine (stratumref07_SameFacts.calls kj2 _ _ l0_4 _ _ l1_4 false _ ?side1 ?side2 ?side3 ?side4 A28.out).mono ?_); (case side1 => repeat (first | exact (Kd.C_below HR0_4.out (by repeat (first | (with_reducible first | exact HB.out | apply iF | apply iG | apply iJ | refine iH ?_ GE226.out | refine iH ?_ GE227.out) | exact HB.out))) | (with_reducible refine Kd.C_alloc ?_ _) | (with_reducible refine Kd.C_drewN ?_ _) | (with_reducible refine Kd.C_drew ?_))); (case side2 => exact HC0_4.out); (case side3 => repeat (first | exact (Kd.C_below HR1_4.out (by repeat (first | (with_reducible first | exact HB.out | apply iF | apply iG | apply iJ | refine iH ?_ GE226.out | refine iH ?_ GE227.out) | exact HB.out))) | (with_reducible refine Kd.C_alloc ?_ _) | (with_reducible refine Kd.C_drewN ?_ _) | (with_reducible refine Kd.C_drew ?_))); (case side4 => exact HC1_4.out); rintro e w53 ⟨rfl, hb⟩; have n0_ := iD.mk (jR (g := gb226) (o := .cells #[.int .u8 a0_0, .int .u32 a0_1, .int .u32 a0_2, .slice A0_3 l0_3.length c0_3, .slice A0_4 l0_4.length c0_4, .int .u32 a0_5, .slice A0_6 l0_6.length c0_6, .int .i64 a0_7, .int .i64 a0_8, .slice A0_9 l0_9.length c0_9] 30 (0, 0)) (bk_ BK226.out) hb); have n1_ := iD.mk (jR (g := gb227) (o := .cells #[.int .u8 a1_0, .int .u32 a1_1, .int .u32 a1_2, .slice A1_3 l1_3.length c1_3, .slice A1_4 l1_4.length c1_4, .int .u32 a1_5, .slice A1_6 l1_6.length c1_6, .int .i64 a1_7, .int .i64 a1_8, .slice A1_9 l1_9.length c1_9] 30 (0, 0)) (bk_ BK227.out) hb); have n2_ := iD.mk (iL (by repeat (first | (with_reducible first | exact HB.out | apply iF | apply iG | apply iJ | refine iH ?_ GE226.out | refine iH ?_ GE227.out) | exact HB.out)) hb); clear BK226; clear BK227; clear HB; have BK226 := n0_; have BK227 := n1_; have HB := n2_; clear n0_ n1_ n2_; (try clear hb); (try clear hb2); (try clear hk); (try clear hi)))
            go_ret
            exact ⟨by first | rfl | (simp [iW, iV] <;> rfl) | (simp [*, iW, iV] <;> rfl), by repeat (first | (with_reducible first | exact HB.out | apply iF | apply iG | apply iJ | refine iH ?_ GE226.out | refine iH ?_ GE227.out) | exact HB.out)⟩
        · replace c27 := Bool.eq_false_iff.mpr c27
          subst c27
          have H1 : (some false) = some r := by rw [if_neg (show ¬ (false = true) by decide)] at H; exact H
          clear H
          have H := H1
          clear H1
          obtain rfl := Option.some.inj H
          have hnb54 := NB226_227.out
          have hnc54 := NB227_226.out
          have hcz55_0 : wc.cell? ⟨gb226, 0, none⟩ = some (.int .u8 a0_0) := (iE BK226.out 0).trans rfl
          have hcz55_1 : wc.cell? ⟨gb226, 1, none⟩ = some (.int .u32 a0_1) := (iE BK226.out 1).trans rfl
          have hcz55_2 : wc.cell? ⟨gb226, 2, none⟩ = some (.int .u32 a0_2) := (iE BK226.out 2).trans rfl
          have hcz55_3 : wc.cell? ⟨gb226, 3, none⟩ = some (.slice A0_3 l0_3.length c0_3) := (iE BK226.out 3).trans rfl
          have hcz55_4 : wc.cell? ⟨gb226, 4, none⟩ = some (.slice A0_4 l0_4.length c0_4) := (iE BK226.out 4).trans rfl
          have hcz55_5 : wc.cell? ⟨gb226, 5, none⟩ = some (.int .u32 a0_5) := (iE BK226.out 5).trans rfl
          have hcz55_6 : wc.cell? ⟨gb226, 6, none⟩ = some (.slice A0_6 l0_6.length c0_6) := (iE BK226.out 6).trans rfl
          have hcz55_7 : wc.cell? ⟨gb226, 7, none⟩ = some (.int .i64 a0_7) := (iE BK226.out 7).trans rfl
          have hcz55_8 : wc.cell? ⟨gb226, 8, none⟩ = some (.int .i64 a0_8) := (iE BK226.out 8).trans rfl
          have hcz55_9 : wc.cell? ⟨gb226, 9, none⟩ = some (.slice A0_9 l0_9.length c0_9) := (iE BK226.out 9).trans rfl
          have hfz55_0 := iC BK226.out 0
          have hfz55_1 := iC BK226.out 1
          have hfz55_2 := iC BK226.out 2
          have hfz55_3 := iC BK226.out 3
          have hfz55_4 := iC BK226.out 4
          have hfz55_5 := iC BK226.out 5
          have hfz55_6 := iC BK226.out 6
          have hfz55_7 := iC BK226.out 7
          have hfz55_8 := iC BK226.out 8
          have hfz55_9 := iC BK226.out 9
          have hcz56_0 : wc.cell? ⟨gb227, 0, none⟩ = some (.int .u8 a1_0) := (iE BK227.out 0).trans rfl
          have hcz56_1 : wc.cell? ⟨gb227, 1, none⟩ = some (.int .u32 a1_1) := (iE BK227.out 1).trans rfl
          have hcz56_2 : wc.cell? ⟨gb227, 2, none⟩ = some (.int .u32 a1_2) := (iE BK227.out 2).trans rfl
          have hcz56_3 : wc.cell? ⟨gb227, 3, none⟩ = some (.slice A1_3 l1_3.length c1_3) := (iE BK227.out 3).trans rfl
          have hcz56_4 : wc.cell? ⟨gb227, 4, none⟩ = some (.slice A1_4 l1_4.length c1_4) := (iE BK227.out 4).trans rfl
          have hcz56_5 : wc.cell? ⟨gb227, 5, none⟩ = some (.int .u32 a1_5) := (iE BK227.out 5).trans rfl
          have hcz56_6 : wc.cell? ⟨gb227, 6, none⟩ = some (.slice A1_6 l1_6.length c1_6) := (iE BK227.out 6).trans rfl
          have hcz56_7 : wc.cell? ⟨gb227, 7, none⟩ = some (.int .i64 a1_7) := (iE BK227.out 7).trans rfl
          have hcz56_8 : wc.cell? ⟨gb227, 8, none⟩ = some (.int .i64 a1_8) := (iE BK227.out 8).trans rfl
          have hcz56_9 : wc.cell? ⟨gb227, 9, none⟩ = some (.slice A1_9 l1_9.length c1_9) := (iE BK227.out 9).trans rfl
          have hfz56_0 := iC BK227.out 0
          have hfz56_1 := iC BK227.out 1
          have hfz56_2 := iC BK227.out 2
          have hfz56_3 := iC BK227.out 3
          have hfz56_4 := iC BK227.out 4
          have hfz56_5 := iC BK227.out 5
          have hfz56_6 := iC BK227.out 6
          have hfz56_7 := iC BK227.out 7
          have hfz56_8 := iC BK227.out 8
          have hfz56_9 := iC BK227.out 9
          go_wp2_with (first | (go_at_call 35; (with_reducible refine (stratumref07_SameInts.calls kj2 _ _ l0_3 _ _ l1_3 false _ ?side1 ?side2 ?side3 ?side4 A26.out).mono ?_); (case side1 => repeat (first | exact (Kd.C_below HR0_3.out HB.out) | (with_reducible refine Kd.C_alloc ?_ _) | (with_reducible refine Kd.C_drewN ?_ _) | (with_reducible refine Kd.C_drew ?_))); (case side2 => exact HC0_3.out); (case side3 => repeat (first | exact (Kd.C_below HR1_3.out HB.out) | (with_reducible refine Kd.C_alloc ?_ _) | (with_reducible refine Kd.C_drewN ?_ _) | (with_reducible refine Kd.C_drew ?_))); (case side4 => exact HC1_3.out); rintro e w' ⟨rfl, ⟨nd, rfl⟩⟩))
          go_ret
          exact ⟨by first | rfl | (simp [iW, iV] <;> rfl) | (simp [*, iW, iV] <;> rfl), by repeat (first | (with_reducible first | exact HB.out | apply iF | apply iG | apply iJ | refine iH ?_ GE226.out | refine iH ?_ GE227.out) | exact HB.out)⟩
      · replace c25 := Bool.eq_false_iff.mpr c25
        subst c25
        have H1 : (some false) = some r := by rw [if_neg (show ¬ (false = true) by decide)] at H; exact H
        clear H
        have H := H1
        clear H1
        obtain rfl := Option.some.inj H
        go_wp2
        go_ret
        exact ⟨by first | rfl | (simp [iW, iV] <;> rfl) | (simp [*, iW, iV] <;> rfl), by repeat (first | (with_reducible first | exact HB.out | apply iF | apply iG | apply iJ | refine iH ?_ GE226.out | refine iH ?_ GE227.out) | exact HB.out)⟩
end Go.Proofs.YtgfkgppomaapiaaDoor.K
end

section
namespace Go.Proofs.YtgfkgppomaapiaaDoor.K
open Go Go.RowKit Go.Proofs.YtgfkgppomaapiaaDoorW.PrintWords Go.Proofs.YtgfkgppomaapiaaDoorW.PrintLast Go.Proofs.YtgfkgppomaapiaaDoorW.PrintMore Go.Proofs.YtgfkgppomaapiaaDoor.My
theorem XB (l m : List Int) (h : l.length = m.length) (k : Nat) (hk : ∀ i : Nat, i < k → l.getD i 0 = m.getD i 0) (hl : l.length ≤ k) : l = m := by
  apply List.ext_getElem h
  intro i h1 h2
  have := hk i (by omega)
  rw [List.getD_eq_getElem?_getD, List.getD_eq_getElem?_getD, List.getElem?_eq_getElem h1, List.getElem?_eq_getElem h2] at this
  exact this
theorem JQ (l m : List Int) (h : l.length = m.length) (hn : l.length ≤ 9223372036854775807) (d : Nat) : ∀ i : Int, 0 ≤ i → i ≤ l.length → (l.length : Int) - i = d → (∀ j : Nat, j < i.toNat → l.getD j 0 = m.getD j 0) → ∃ b, Ev (fun k => stratumref07_SameInts.l0 k l m i) b ∧ (b = true ↔ l = m) := by
  induction d with
  | zero =>
    intro i h0 h1 hd hp
    exact ⟨true, Ev.step (f := fun _ => some true) (fun k => by simp only [stratumref07_SameInts.l0]; rw [if_neg (by omega)]) (Ev.now _), by
      simp only [true_iff]
      exact XB l m h l.length (fun j hj => hp j (by omega)) (Nat.le_refl _)⟩
  | succ d ih =>
    intro i h0 h1 hd hp
    have hlt : i < (l.length : Int) := by omega
    by_cases c : rd l i = rd m i
    · obtain ⟨b, h2, h3⟩ := ih (i + 1) (by omega) (by omega) (by omega) (fun j hj => by
        rcases Nat.lt_or_ge j i.toNat with h | h
        · exact hp j h
        · obtain rfl : j = i.toNat := by omega
          exact c)
      exact ⟨b, Ev.step (fun k => by simp only [stratumref07_SameInts.l0]; rw [if_pos hlt, if_pos h0, if_pos (by omega), if_pos c, qF h0 hlt hn]) h2, h3⟩
    · refine ⟨false, Ev.step (f := fun _ => some false) (fun k => by simp only [stratumref07_SameInts.l0]; rw [if_pos hlt, if_pos h0, if_pos (by omega), if_neg c]) (Ev.now _), ?_⟩
      simp only [Bool.false_eq_true, false_iff]
      intro e
      rw [e] at c
      exact c rfl
theorem MN (l m : List Int) (hn : l.length ≤ 9223372036854775807) : ∃ b, Ev (fun k => stratumref07_SameInts.f k l m) b ∧ (b = true ↔ l = m) := by
  by_cases h : (l.length : Int) = (m.length : Int)
  · obtain ⟨b, h1, h2⟩ := JQ l m (by omega) hn l.length 0 (by omega) (by omega) (by omega) (fun j hj => by simp at hj)
    exact ⟨b, Ev.congr (fun k => by unfold stratumref07_SameInts.f; rw [if_pos h]) h1, h2⟩
  · refine ⟨false, Ev.congr (f := fun _ => some false) (fun k => by unfold stratumref07_SameInts.f; rw [if_neg h]) (Ev.now _), ?_⟩
    simp only [Bool.false_eq_true, false_iff]
    intro e
    exact h (by rw [e])
theorem TJ (l m : List jX) (h : l.length = m.length) (hk : ∀ i : Nat, i < l.length → (l.getD i z98).f0 = (m.getD i z98).f0 ∧ (l.getD i z98).f1 = (m.getD i z98).f1) : l = m := by
  apply List.ext_getElem h
  intro i h1 h2
  have := hk i h1
  rw [List.getD_eq_getElem?_getD, List.getD_eq_getElem?_getD, List.getElem?_eq_getElem h1, List.getElem?_eq_getElem h2] at this
  simp only [Option.getD_some] at this
  cases hx : l[i]
  cases hy : m[i]
  rw [hx, hy] at this
  simp only at this
  rw [this.1, this.2]
theorem MC (a b : Int) (l m : List jX) (h : l.length = m.length) (hn : l.length ≤ 9223372036854775807) (d : Nat) : ∀ i : Int, 0 ≤ i → i ≤ l.length → (l.length : Int) - i = d → (∀ j : Nat, j < i.toNat → (l.getD j z98).f0 = (m.getD j z98).f0 ∧ (l.getD j z98).f1 = (m.getD j z98).f1) → ∃ t, Ev (fun k => stratumref07_SameMap.l0 k i a l b m) t ∧ (t = true ↔ l = m) := by
  induction d with
  | zero =>
    intro i h0 h1 hd hp
    exact ⟨true, Ev.step (f := fun _ => some true) (fun k => by simp only [stratumref07_SameMap.l0]; rw [if_neg (by omega)]) (Ev.now _), by
      simp only [true_iff]
      exact TJ l m h (fun j hj => hp j (by omega))⟩
  | succ d ih =>
    intro i h0 h1 hd hp
    have hlt : i < (l.length : Int) := by omega
    by_cases c : (kS l i).f0 = (kS m i).f0 ∧ (kS l i).f1 = (kS m i).f1
    · obtain ⟨b, h2, h3⟩ := ih (i + 1) (by omega) (by omega) (by omega) (fun j hj => by
        rcases Nat.lt_or_ge j i.toNat with h | h
        · exact hp j h
        · obtain rfl : j = i.toNat := by omega
          exact c)
      exact ⟨b, Ev.step (fun k => by simp only [stratumref07_SameMap.l0]; rw [if_pos hlt, if_pos h0, if_pos (by omega), if_neg (by simp [c.1, c.2]), qF h0 hlt hn]) h2, h3⟩
    · refine ⟨false, Ev.step (f := fun _ => some false) (fun k => by simp only [stratumref07_SameMap.l0]; rw [if_pos hlt, if_pos h0, if_pos (by omega), if_pos (by simp; exact Classical.not_and_iff_not_or_not.mp c)]) (Ev.now _), ?_⟩
      simp only [Bool.false_eq_true, false_iff]
      intro e
      rw [e] at c
      exact c ⟨rfl, rfl⟩
theorem PK (a b : Int) (l m : List jX) (hn : l.length ≤ 9223372036854775807) : ∃ t, Ev (fun k => stratumref07_SameMap.f k a l b m) t ∧ (t = true ↔ (a = b ∧ l = m)) := by
  have hno : ∀ (x : Bool), x = true → Ev (fun k => stratumref07_SameMap.j0 k x a l b m) false := fun x hx => Ev.step (f := fun _ => some false) (fun k => by simp only [stratumref07_SameMap.j0]; rw [if_pos hx]) (Ev.now _)
  by_cases hab : a = b
  · by_cases h : (l.length : Int) = (m.length : Int)
    · obtain ⟨t, h1, h2⟩ := MC a b l m (by omega) hn l.length 0 (by omega) (by omega) (by omega) (fun j hj => by simp at hj)
      refine ⟨t, Ev.congr (fun k => by unfold stratumref07_SameMap.f; rw [if_pos hab]) (Ev.step (fun k => by simp only [stratumref07_SameMap.j0]; rw [if_neg (by simp [h])]) h1), ?_⟩
      rw [h2]; exact ⟨fun e => ⟨hab, e⟩, fun e => e.2⟩
    · refine ⟨false, Ev.congr (fun k => by unfold stratumref07_SameMap.f; rw [if_pos hab]) (hno _ (by simpa [bne] using h)), ?_⟩
      simp only [Bool.false_eq_true, false_iff]
      intro e
      exact h (by rw [e.2])
  · refine ⟨false, Ev.congr (fun k => by unfold stratumref07_SameMap.f; rw [if_neg hab]) (hno true rfl), ?_⟩
    simp only [Bool.false_eq_true, false_iff]
    exact fun e => hab e.1
def VI (x y : SRec) : Prop := x.f0 = y.f0 ∧ x.f1 = y.f1 ∧ x.f2 = y.f2 ∧ x.f6 = y.f6 ∧ x.f7 = y.f7 ∧ x.f3 = y.f3 ∧ kC x.f4 = kC y.f4 ∧ (x.f5.f0 = y.f5.f0 ∧ x.f5.f1 = y.f5.f1) ∧ jT x.f8 = jT y.f8
structure SLen (x : SRec) : Prop where
  n3 : x.f3.length ≤ 9223372036854775807
  n4 : (kC x.f4).length ≤ 140737488355328
  n6 : x.f5.f1.length ≤ 9223372036854775807
  n9 : (jT x.f8).length ≤ 140737488355328
theorem IL (l m : List jK) (hl : (kC l).length ≤ 140737488355328) (hm : (kC m).length ≤ 140737488355328) : ∃ t, Ev (fun k => stratumref07_SameFacts.f k l m) t ∧ (t = true ↔ kC l = kC m) := by
  have e1 := xA l [] (by simpa using hl)
  have e2 := xA m [] (by simpa using hm)
  rw [List.nil_append] at e1 e2
  refine ⟨decide (kC l = kC m), ?_, by simp⟩
  unfold stratumref07_SameFacts.f
  refine Ev.bind e1 (Ev.bind e2 ?_)
  rw [oM]
  exact Ev.now _
theorem yO (l m : List jG) (hl : (jT l).length ≤ 140737488355328) (hm : (jT m).length ≤ 140737488355328) : stratumref07_SameEntries.f l m = some (decide (jT l = jT m)) := by
  unfold stratumref07_SameEntries.f stratumref07_Entries.f
  rw [if_pos ⟨rfl, hl⟩, if_pos ⟨rfl, hm⟩]
  simp only [Option.bind_some]
  rw [oM]
theorem VG (x y : SRec) (hx : SLen x) (hy : SLen y) : ∃ t, Ev (fun k => stratumref07_Same.f k x.f0 x.f1 x.f2 x.f3 x.f4 x.f5.f0 x.f5.f1 x.f6 x.f7 x.f8 y.f0 y.f1 y.f2 y.f3 y.f4 y.f5.f0 y.f5.f1 y.f6 y.f7 y.f8) t ∧ (t = true ↔ VI x y) := by
  have hno : ∀ (b : Bool), b = false → Ev (fun k => stratumref07_Same.j0 k b x.f0 x.f1 x.f2 x.f3 x.f4 x.f5.f0 x.f5.f1 x.f6 x.f7 x.f8 y.f0 y.f1 y.f2 y.f3 y.f4 y.f5.f0 y.f5.f1 y.f6 y.f7 y.f8) false := fun b hb => Ev.step (f := fun _ => some false) (fun k => by simp only [stratumref07_Same.j0]; rw [if_neg (by rw [hb]; decide)]) (Ev.now _)
  have no : ∀ {p : Prop}, ¬ p → (false = true ↔ p) := fun h => ⟨(fun e => by cases e), fun e => absurd e h⟩
  by_cases h0 : x.f0 = y.f0
  case neg => exact ⟨false, Ev.congr (fun k => by unfold stratumref07_Same.f; rw [if_neg h0]) (hno false rfl), no (fun e => h0 e.1)⟩
  by_cases h1 : x.f1 = y.f1
  case neg => exact ⟨false, Ev.congr (fun k => by unfold stratumref07_Same.f; rw [if_pos h0, if_neg h1]) (hno false rfl), no (fun e => h1 e.2.1)⟩
  by_cases h2 : x.f2 = y.f2
  case neg => exact ⟨false, Ev.congr (fun k => by unfold stratumref07_Same.f; rw [if_pos h0, if_pos h1, if_neg h2]) (hno false rfl), no (fun e => h2 e.2.2.1)⟩
  by_cases h6 : x.f6 = y.f6
  case neg => exact ⟨false, Ev.congr (fun k => by unfold stratumref07_Same.f; rw [if_pos h0, if_pos h1, if_pos h2, if_neg h6]) (hno false rfl), no (fun e => h6 e.2.2.2.1)⟩
  by_cases h7 : x.f7 = y.f7
  case neg => exact ⟨false, Ev.congr (fun k => by unfold stratumref07_Same.f; rw [if_pos h0, if_pos h1, if_pos h2, if_pos h6]) (hno _ (by simpa using h7)), no (fun e => h7 e.2.2.2.2.1)⟩
  obtain ⟨t3, a3, b3⟩ := MN x.f3 y.f3 hx.n3
  obtain ⟨t4, a4, b4⟩ := IL x.f4 y.f4 hx.n4 hy.n4
  obtain ⟨t5, a5, b5⟩ := PK x.f5.f0 y.f5.f0 x.f5.f1 y.f5.f1 hx.n6
  have a9 := yO x.f8 y.f8 hx.n9 hy.n9
  refine ⟨t3 && (t4 && (t5 && decide (jT x.f8 = jT y.f8))), Ev.congr (fun k => by unfold stratumref07_Same.f; rw [if_pos h0, if_pos h1, if_pos h2, if_pos h6]) (Ev.step (fun k => by simp only [stratumref07_Same.j0]; rw [if_pos (by simpa using h7)]) (Ev.bind a3 (TB _ (Ev.bind a4 (TB _ (Ev.bind a5 (TB _ ?_))))))), ?_⟩
  · exact Ev.congr (fun k => by rw [a9]; rfl) (Ev.now _)
  · simp only [Bool.and_eq_true, decide_eq_true_eq, b3, b4, b5]
    exact ⟨fun e => ⟨h0, h1, h2, h6, h7, e.1, e.2.1, e.2.2.1, e.2.2.2⟩, fun e => ⟨e.2.2.2.2.2.1, e.2.2.2.2.2.2.1, e.2.2.2.2.2.2.2.1, e.2.2.2.2.2.2.2.2⟩⟩
end Go.Proofs.YtgfkgppomaapiaaDoor.K
end

section
namespace Go.Proofs.YtgfkgppomaapiaaDoor.K
open Go Go.RowKit Go.Proofs.YtgfkgppomaapiaaDoorW.PrintWords Go.Proofs.YtgfkgppomaapiaaDoorW.PrintLast Go.Proofs.YtgfkgppomaapiaaDoorW.PrintMore Go.Proofs.YtgfkgppomaapiaaDoor.My
/-- What a sound record is, kind by kind. -/
theorem LK (r : SRec) (h : jP r = true) :
    (r.f0 = 1 ∧ lH (-1) r.f3 = true ∧ lX r.f4 = true ∧ r.f2 = 0 ∧ r.f5.f0 = 0 ∧ r.f5.f1 = [] ∧ r.f6 = 0 ∧ r.f7 = 0 ∧ r.f8 = []) ∨
    (r.f0 = 2 ∧ lH (-1) r.f3 = true ∧ r.f4 = [] ∧ r.f5.f0 = 0 ∧ r.f5.f1 = [] ∧ r.f6 = 0 ∧ r.f7 = 0 ∧ r.f8 = []) ∨
    ((r.f0 = 3 ∨ r.f0 = 4 ∨ r.f0 = 5) ∧ r.f2 = 0 ∧ r.f3 = [] ∧ r.f4 = [] ∧ r.f5.f0 = 0 ∧ r.f5.f1 = [] ∧ r.f6 = 0 ∧ r.f7 = 0 ∧ r.f8 = []) ∨
    (r.f0 = 6 ∧ r.f1 = 0 ∧ r.f5.f1.length ≤ 40 ∧ (∀ s ∈ r.f5.f1, nR s = true) ∧ r.f2 = 0 ∧ r.f3 = [] ∧ r.f4 = [] ∧ r.f6 = 0 ∧ r.f7 = 0 ∧ r.f8 = []) ∨
    (r.f0 = 7 ∧ lV r.f8 = true ∧ r.f8.length ≤ 5000 ∧ (0 ≤ r.f6 ∧ r.f6 ≤ 10000) ∧ (0 ≤ r.f7 ∧ r.f7 ≤ 10000) ∧ r.f2 = 0 ∧ r.f3 = [] ∧ r.f4 = [] ∧ r.f5.f0 = 0 ∧ r.f5.f1 = []) := by
  unfold jP at h
  by_cases h1 : r.f0 = 1
  · rw [if_pos h1] at h
    simp only [Bool.and_eq_true, beq_iff_eq] at h
    obtain ⟨⟨⟨⟨⟨⟨⟨ha, hb⟩, hc⟩, hd⟩, he⟩, hf⟩, hg⟩, hi⟩ := h
    exact .inl ⟨h1, ha, hb, hc, hd, kR he, hf, hg, kR hi⟩
  rw [if_neg h1] at h
  by_cases h2 : r.f0 = 2
  · rw [if_pos h2] at h
    simp only [Bool.and_eq_true, beq_iff_eq] at h
    obtain ⟨⟨⟨⟨⟨⟨ha, hb⟩, hc⟩, hd⟩, he⟩, hf⟩, hg⟩ := h
    exact .inr (.inl ⟨h2, ha, kR hb, hc, kR hd, he, hf, kR hg⟩)
  rw [if_neg h2] at h
  by_cases h3 : (decide (r.f0 = 3) || decide (r.f0 = 4) || decide (r.f0 = 5)) = true
  · rw [if_pos h3] at h
    have h3' : r.f0 = 3 ∨ r.f0 = 4 ∨ r.f0 = 5 := by
      simp only [Bool.or_eq_true, decide_eq_true_eq] at h3
      omega
    simp only [Bool.and_eq_true, beq_iff_eq] at h
    obtain ⟨⟨⟨⟨⟨⟨⟨ha, hb⟩, hc⟩, hd⟩, he⟩, hf⟩, hg⟩, hi⟩ := h
    exact .inr (.inr (.inl ⟨h3', ha, kR hb, kR hc, hd, kR he, hf, hg, kR hi⟩))
  rw [if_neg h3] at h
  by_cases h6 : r.f0 = 6
  · rw [if_pos h6] at h
    simp only [Bool.and_eq_true, beq_iff_eq, decide_eq_true_eq, List.all_eq_true] at h
    obtain ⟨⟨⟨⟨⟨⟨⟨⟨ha, hb⟩, hc⟩, hd⟩, he⟩, hf⟩, hg⟩, hi⟩, hj⟩ := h
    exact .inr (.inr (.inr (.inl ⟨h6, ha, hb, hc, hd, kR he, kR hf, hg, hi, kR hj⟩)))
  rw [if_neg h6] at h
  by_cases h7 : r.f0 = 7
  · rw [if_pos h7] at h
    simp only [Bool.and_eq_true, beq_iff_eq, decide_eq_true_eq] at h
    obtain ⟨⟨⟨⟨⟨⟨⟨⟨⟨⟨ha, hb⟩, hc⟩, hd⟩, he⟩, hf⟩, hg⟩, hi⟩, hj⟩, hk⟩, hl⟩ := h
    exact .inr (.inr (.inr (.inr ⟨h7, ha, hb, ⟨hc, hd⟩, ⟨he, hf⟩, hg, kR hi, kR hj, hk, kR hl⟩)))
  rw [if_neg h7] at h
  cases h
theorem uF : (kC []).length ≤ 140737488355328 := by decide
theorem z32 : (0:Int) ≤ 0 ∧ (0:Int) < 4294967296 := by decide
theorem pJ : (jT []).length ≤ 140737488355328 := by decide
theorem O1 (r : SRec) (h : jP r = true) : SLen r := by
  rcases LK r h with ⟨_, h3, h4, _, _, h6, _, _, h9⟩ | ⟨_, h3, h4, _, h6, _, _, h9⟩ | ⟨_, _, h3, h4, _, h6, _, _, h9⟩ | ⟨_, _, h6, _, _, h3, h4, _, _, h9⟩ | ⟨_, h9, h95, _, _, _, h3, h4, _, h6⟩
  · exact ⟨by have := uQ _ h3; omega, by have := yF _ h4; omega, by rw [h6]; decide, by rw [h9]; exact pJ⟩
  · exact ⟨by have := uQ _ h3; omega, by rw [h4]; exact uF, by rw [h6]; decide, by rw [h9]; exact pJ⟩
  · exact ⟨by rw [h3]; decide, by rw [h4]; exact uF, by rw [h6]; decide, by rw [h9]; exact pJ⟩
  · exact ⟨by rw [h3]; decide, by rw [h4]; exact uF, by omega, by rw [h9]; exact pJ⟩
  · exact ⟨by rw [h3]; decide, by rw [h4]; exact uF, by rw [h6]; decide, by have := xW _ h9 h95; omega⟩
/-- Alike just if of the same bytes. -/
theorem same_iff (r s : SRec) (h : jP r = true) (hk : JM r) (h' : jP s = true) (hk' : JM s) : VI r s ↔ recE r = recE s := by
  constructor
  · rintro ⟨e0, e1, e2, e6, e7, e3, e4, ⟨e5, e51⟩, e8⟩
    unfold recE yJ
    have h4 : kC r.f4 = kC s.f4 := e4
    rw [e0, e1, e2, e6, e7, e3, h4, e5, e51, e8]
  · intro e
    obtain ⟨rfl, _⟩ := W9 r s [] [] h hk h' hk' (by rw [e])
    exact ⟨rfl, rfl, rfl, rfl, rfl, rfl, rfl, ⟨rfl, rfl⟩, rfl⟩
theorem zL (l : List jK) (h : ∀ f ∈ l, NY f) : ∀ f ∈ rM l, JS f := by
  intro f hf
  unfold rM at hf
  obtain ⟨g, hg, rfl⟩ := List.mem_map.1 hf
  exact (h g (List.mem_of_mem_take hg)).2
theorem RS : ∀ (l : List jG) (last : Int), (∀ e ∈ l, IX e) → ∀ e ∈ entM last l, I4 e
  | [], _, _, e, h => by cases h
  | x :: l, last, hl, e, h => by
    rw [entM] at h
    rcases List.mem_cons.1 h with rfl | h
    · exact ⟨by simp only; omega, by simp only; omega, zL _ (hl x List.mem_cons_self).2⟩
    · exact RS l _ (fun y hy => hl y (List.mem_cons_of_mem _ hy)) e h
theorem Q7 (kind id at_ nodes : Int) (facts : List jK) (spans : List Int) (from_ to_ : Int) (entries : List jG) (hid : 0 ≤ id ∧ id < 4294967296) (hat : 0 ≤ at_ ∧ at_ < 4294967296) (hf : ∀ f ∈ facts, NY f) (he : ∀ e ∈ entries, IX e) :
    JM (rC kind id at_ nodes facts spans from_ to_ entries) := by
  have hk : 0 ≤ (1 + Int.tmod kind 7) % 256 ∧ (1 + Int.tmod kind 7) % 256 < 256 := by omega
  unfold rC
  simp only
  generalize (1 + Int.tmod kind 7) % 256 = k at hk
  split
  · exact ⟨hk, hid, z32, zL _ hf, z32, fun e h => by cases h⟩
  split
  · exact ⟨hk, hid, hat, fun e h => (by cases h), z32, fun e h => by cases h⟩
  split
  · exact ⟨hk, z32, z32, fun e h => (by cases h), hat, fun e h => by cases h⟩
  split
  · exact ⟨hk, hid, z32, fun e h => (by cases h), z32, RS _ _ (fun e h => he e (List.mem_of_mem_take h))⟩
  · exact ⟨hk, hid, z32, fun e h => (by cases h), z32, fun e h => by cases h⟩
end Go.Proofs.YtgfkgppomaapiaaDoor.K
end

section
namespace Go.Proofs.YtgfkgppomaapiaaDoor.K
open Go Go.RowKit Go.Proofs.YtgfkgppomaapiaaDoorW.PrintWords Go.Proofs.YtgfkgppomaapiaaDoorW.PrintLast Go.Proofs.YtgfkgppomaapiaaDoorW.PrintMore Go.Proofs.YtgfkgppomaapiaaDoor.My
theorem IU {w : World} {base : Nat} {ok : Nat → Prop} {A : Option Addr} {n c : Nat} {r : List Int} (h : Kd.R (Kd.int .u8) 5 w base ok (.slice A n c) r) : (convert 33 9 (.slice A n c)).run Tryd.prog w = .ok (.string (strOfNums r)) w :=
  kM (P := Tryd.prog) Tryd.underlying33 Tryd.underlying5 Tryd.underlying9 (Kd.own_of_R h)
/-- A record's parts, as they lie in a world. -/
structure Lies (w : World) (r : SRec) (A3 : Option Addr) (a3 : Nat) (A4 : Option Addr) (a4 : Nat) (A6 : Option Addr) (a6 : Nat) (A9 : Option Addr) (a9 : Nat) : Prop where
  h3 : Kd.C (Kd.int .i64) w A3 r.f3.length r.f3
  d3 : r.f3.length ≤ a3
  h4 : Kd.C k139 w A4 r.f4.length r.f4
  d4 : r.f4.length ≤ a4
  h6 : Kd.C k98 w A6 r.f5.f1.length r.f5.f1
  d6 : r.f5.f1.length ≤ a6
  h9 : Kd.C k86 w A9 r.f8.length r.f8
  d9 : r.f8.length ≤ a9
theorem Lies.below {w w' : World} {r : SRec} {A3 A4 A6 A9 : Option Addr} {a3 a4 a6 a9 : Nat} (h : Lies w r A3 a3 A4 a4 A6 a6 A9 a9) (hb : Below w.heap.size w w') : Lies w' r A3 a3 A4 a4 A6 a6 A9 a9 :=
  ⟨Kd.C_below h.h3 hb, h.d3, Kd.C_below h.h4 hb, h.d4, Kd.C_below h.h6 hb, h.d6, Kd.C_below h.h9 hb, h.d9⟩
theorem zQ {w : World} {r : SRec} {A3 A4 A6 A9 : Option Addr} {a3 a4 a6 a9 : Nat} (h : Lies w r A3 a3 A4 a4 A6 a6 A9 a9) : ∃ v : Int, Calls Tryd.prog 15 #[.agg #[.int .u8 r.f0, .int .u32 r.f1, .int .u32 r.f2, .slice A3 r.f3.length a3, .slice A4 r.f4.length a4, .int .u32 r.f5.f0, .slice A6 r.f5.f1.length a6, .int .i64 r.f6, .int .i64 r.f7, .slice A9 r.f8.length a9]] w fun e w' => e = .returned (.int .i64 v) ∧ Below w.heap.size w w' :=
  Q3 _ _ _ _ _ _ _ _ _ _ _ _ _ _ _ _ _ _ _ h.h3 h.d3 h.h4 h.d4 h.h6 h.d6 h.h9 h.d9
theorem QU {w : World} {r s : SRec} {A3 A4 A6 A9 B3 B4 B6 B9 : Option Addr} {a3 a4 a6 a9 b3 b4 b6 b9 : Nat} (h : Lies w r A3 a3 A4 a4 A6 a6 A9 a9) (g : Lies w s B3 b3 B4 b4 B6 b6 B9 b9) {t : Bool} (ht : ∃ k, stratumref07_Same.f k r.f0 r.f1 r.f2 r.f3 r.f4 r.f5.f0 r.f5.f1 r.f6 r.f7 r.f8 s.f0 s.f1 s.f2 s.f3 s.f4 s.f5.f0 s.f5.f1 s.f6 s.f7 s.f8 = some t) :
    Calls Tryd.prog 23 #[.agg #[.int .u8 r.f0, .int .u32 r.f1, .int .u32 r.f2, .slice A3 r.f3.length a3, .slice A4 r.f4.length a4, .int .u32 r.f5.f0, .slice A6 r.f5.f1.length a6, .int .i64 r.f6, .int .i64 r.f7, .slice A9 r.f8.length a9], .agg #[.int .u8 s.f0, .int .u32 s.f1, .int .u32 s.f2, .slice B3 s.f3.length b3, .slice B4 s.f4.length b4, .int .u32 s.f5.f0, .slice B6 s.f5.f1.length b6, .int .i64 s.f6, .int .i64 s.f7, .slice B9 s.f8.length b9]] w fun e w' => e = .returned (.bool t) ∧ Below w.heap.size w w' := by
  obtain ⟨k, hk⟩ := ht
  exact stratumref07_Same.calls k _ _ _ _ _ _ _ _ _ _ _ _ _ _ _ _ _ _ _ _ _ _ _ _ _ _ _ _ _ _ _ _ _ _ _ _ t w h.h3 h.d3 h.h4 h.d4 h.h6 h.d6 h.h9 h.d9 g.h3 g.d3 g.h4 g.d4 g.h6 g.d6 g.h9 g.d9 hk
end Go.Proofs.YtgfkgppomaapiaaDoor.K
end

section
namespace Go.Proofs.YtgfkgppomaapiaaDoor.K
open Go Go.RowKit Go.Proofs.YtgfkgppomaapiaaDoorW.PrintWords Go.Proofs.YtgfkgppomaapiaaDoorW.PrintLast Go.Proofs.YtgfkgppomaapiaaDoorW.PrintMore Go.Proofs.YtgfkgppomaapiaaDoor.My
set_option maxHeartbeats 4000000 in
theorem TN (k : Int) (w : World) : Calls Tryd.prog 103 #[.int .u8 k] w fun e w' => e = .returned (.int .u8 (mY k)) ∧ w' = w := by
  by_cases h1 : k = 1
  · subst h1; go_enter Tryd.func103, Tryd.ntmps103; go_wp2; go_ret; exact ⟨rfl, rfl⟩
  by_cases h2 : k = 4
  · subst h2; go_enter Tryd.func103, Tryd.ntmps103; go_wp2; go_ret; exact ⟨rfl, rfl⟩
  by_cases h3 : k = 8
  · subst h3; go_enter Tryd.func103, Tryd.ntmps103; go_wp2; go_ret; exact ⟨rfl, rfl⟩
  by_cases h4 : k = 9
  · subst h4; go_enter Tryd.func103, Tryd.ntmps103; go_wp2; go_ret; exact ⟨rfl, rfl⟩
  by_cases h5 : k = 10
  · subst h5; go_enter Tryd.func103, Tryd.ntmps103; go_wp2; go_ret; exact ⟨rfl, rfl⟩
  by_cases h6 : k = 2
  · subst h6; go_enter Tryd.func103, Tryd.ntmps103; go_wp2; go_ret; exact ⟨rfl, rfl⟩
  by_cases h7 : k = 3
  · subst h7; go_enter Tryd.func103, Tryd.ntmps103; go_wp2; go_ret; exact ⟨rfl, rfl⟩
  by_cases h8 : k = 5
  · subst h8; go_enter Tryd.func103, Tryd.ntmps103; go_wp2; go_ret; exact ⟨rfl, rfl⟩
  by_cases h9 : k = 6
  · subst h9; go_enter Tryd.func103, Tryd.ntmps103; go_wp2; go_ret; exact ⟨rfl, rfl⟩
  by_cases h10 : k = 7
  · subst h10; go_enter Tryd.func103, Tryd.ntmps103; go_wp2; go_ret; exact ⟨rfl, rfl⟩
  by_cases h11 : k = 11
  · subst h11; go_enter Tryd.func103, Tryd.ntmps103; go_wp2; go_ret; exact ⟨rfl, rfl⟩
  · have hz : 0 = mY k := by unfold mY; simp [h1, h2, h3, h4, h5, h6, h7, h8, h9, h10, h11]
    go_enter Tryd.func103, Tryd.ntmps103; go_wp2; go_ret; exact ⟨by rw [← hz]; rfl, rfl⟩
theorem eight {w : World} {b t : Nat} {v0 v1 v2 v3 v4 v5 v6 v7 : Value} (h : w.heap[b]? = some (.cells #[v0, v1, v2, v3, v4, v5, v6, v7] t (0, 0))) :
    w.cell? ⟨b, 0, none⟩ = some v0 ∧ w.cell? ⟨b, 1, none⟩ = some v1 ∧ w.cell? ⟨b, 2, none⟩ = some v2 ∧ w.cell? ⟨b, 3, none⟩ = some v3 ∧ w.cell? ⟨b, 4, none⟩ = some v4 ∧ w.cell? ⟨b, 5, none⟩ = some v5 ∧ w.cell? ⟨b, 6, none⟩ = some v6 ∧ w.cell? ⟨b, 7, none⟩ = some v7 ∧
    w.frozen? ⟨b, 0, none⟩ = false ∧ w.frozen? ⟨b, 1, none⟩ = false ∧ w.frozen? ⟨b, 2, none⟩ = false ∧ w.frozen? ⟨b, 3, none⟩ = false ∧ w.frozen? ⟨b, 4, none⟩ = false ∧ w.frozen? ⟨b, 5, none⟩ = false ∧ w.frozen? ⟨b, 6, none⟩ = false ∧ w.frozen? ⟨b, 7, none⟩ = false :=
  ⟨(iE h 0).trans rfl, (iE h 1).trans rfl, (iE h 2).trans rfl, (iE h 3).trans rfl, (iE h 4).trans rfl, (iE h 5).trans rfl, (iE h 6).trans rfl, (iE h 7).trans rfl,
   iC h 0, iC h 1, iC h 2, iC h 3, iC h 4, iC h 5, iC h 6, iC h 7⟩
theorem OZ (k i a p q : Int) (A3 : Option Addr) (n3 c3 : Nat) (A4 : Option Addr) (n4 c4 : Nat) (A9 : Option Addr) (n9 c9 : Nat) : (Tryd.prog).built 30 (#[(0, .int .u8 k), (1, .int .u32 i), (2, .int .u32 a), (3, .slice A3 n3 c3), (4, .slice A4 n4 c4), (6, .int .i64 p), (7, .int .i64 q), (8, .slice A9 n9 c9)] : Array (Nat × Value)).toList = some #[.int .u8 k, .int .u32 i, .int .u32 a, .slice A3 n3 c3, .slice A4 n4 c4, .int .u32 0, .slice none 0 0, .int .i64 p, .int .i64 q, .slice A9 n9 c9] := by kernel_rfl
theorem PN (w : World) (k i a p q : Int) (A3 : Option Addr) (n3 c3 : Nat) (A4 : Option Addr) (n4 c4 : Nat) (A9 : Option Addr) (n9 c9 : Nat) : (Instr.build 30 #[(0, .int .u8 k), (1, .int .u32 i), (2, .int .u32 a), (3, .slice A3 n3 c3), (4, .slice A4 n4 c4), (6, .int .i64 p), (7, .int .i64 q), (8, .slice A9 n9 c9)]).run Tryd.prog w = .ok (.agg #[.int .u8 k, .int .u32 i, .int .u32 a, .slice A3 n3 c3, .slice A4 n4 c4, .int .u32 0, .slice none 0 0, .int .i64 p, .int .i64 q, .slice A9 n9 c9]) w := run_build w _ _ _ (OZ k i a p q A3 n3 c3 A4 n4 c4 A9 n9 c9)
theorem VH {tmps : Array Value} {W : World} {p : Tmp} {b : Nat} {cs : Array Value} (h : Tryd.f80.results = #[.cell p 30]) (hp : tmps.getD p undef = .pointer (some ⟨b, 0, none⟩)) (hx : W.heap[b]? = some (.cells cs 30 (0, 0))) (hs : cs.size = 10) :
    (results Tryd.f80 tmps).run Tryd.prog W = .ok (.agg cs) W := by
  exact results_cell_row h _ _ _ _ _ _ _ hp hx Tryd.underlying30 rfl (by rw [hs]; kernel_rfl)
attribute [-go_sem] Instr.build Instr.storeAt
attribute [local go_sem] PN
set_option maxRecDepth 20000 in
set_option maxHeartbeats 8000000 in
theorem oK (k i a p q : Int) (A3 : Option Addr) (n3 c3 : Nat) (A4 : Option Addr) (n4 c4 : Nat) (A9 : Option Addr) (n9 c9 : Nat) (w : World) :
    Calls Tryd.prog 80 #[.agg #[.int .u8 k, .int .u32 i, .int .u32 a, .slice A3 n3 c3, .slice A4 n4 c4, .int .i64 p, .int .i64 q, .slice A9 n9 c9]] w fun e w' => e = .returned (.agg #[.int .u8 (mY k), .int .u32 i, .int .u32 a, .slice A3 n3 c3, .slice A4 n4 c4, .int .u32 0, .slice none 0 0, .int .i64 p, .int .i64 q, .slice A9 n9 c9]) ∧ Below w.heap.size w w' := by
  have hx : ((w.alloc (.cells #[.int .u8 k, .int .u32 i, .int .u32 a, .slice A3 n3 c3, .slice A4 n4 c4, .int .i64 p, .int .i64 q, .slice A9 n9 c9] 51)).alloc (.cells #[.int .u8 0, .int .u32 0, .int .u32 0, .slice none 0 0, .slice none 0 0, .int .u32 0, .slice none 0 0, .int .i64 0, .int .i64 0, .slice none 0 0] 30)).heap[w.heap.size]? = some (.cells #[.int .u8 k, .int .u32 i, .int .u32 a, .slice A3 n3 c3, .slice A4 n4 c4, .int .i64 p, .int .i64 q, .slice A9 n9 c9] 51 (0, 0)) := jH (iT rfl)
  have hz : ((w.alloc (.cells #[.int .u8 k, .int .u32 i, .int .u32 a, .slice A3 n3 c3, .slice A4 n4 c4, .int .i64 p, .int .i64 q, .slice A9 n9 c9] 51)).alloc (.cells #[.int .u8 0, .int .u32 0, .int .u32 0, .slice none 0 0, .slice none 0 0, .int .u32 0, .slice none 0 0, .int .i64 0, .int .i64 0, .slice none 0 0] 30)).heap[w.heap.size + 1]? = some (.cells #[.int .u8 0, .int .u32 0, .int .u32 0, .slice none 0 0, .slice none 0 0, .int .u32 0, .slice none 0 0, .int .i64 0, .int .i64 0, .slice none 0 0] 30 (0, 0)) := iT (by simp)
  have hb : Below w.heap.size w ((w.alloc (.cells #[.int .u8 k, .int .u32 i, .int .u32 a, .slice A3 n3 c3, .slice A4 n4 c4, .int .i64 p, .int .i64 q, .slice A9 n9 c9] 51)).alloc (.cells #[.int .u8 0, .int .u32 0, .int .u32 0, .slice none 0 0, .slice none 0 0, .int .u32 0, .slice none 0 0, .int .i64 0, .int .i64 0, .slice none 0 0] 30)) := iF (iF (Below.refl _ _) _) _
  have HB := iD.mk hb
  clear hb
  go_enter Tryd.func80, Tryd.ntmps80
  go_wp2
  generalize ((w.alloc (.cells #[.int .u8 k, .int .u32 i, .int .u32 a, .slice A3 n3 c3, .slice A4 n4 c4, .int .i64 p, .int .i64 q, .slice A9 n9 c9] 51)).alloc (.cells #[.int .u8 0, .int .u32 0, .int .u32 0, .slice none 0 0, .slice none 0 0, .int .u32 0, .slice none 0 0, .int .i64 0, .int .i64 0, .slice none 0 0] 30)) = W at hx hz HB
  have HX := iD.mk hx
  have HZ := iD.mk hz
  have hst := fun (_ : True) => nD (a := mY k) (k := i) (i := a) (x3 := .slice A3 n3 c3) (x4 := .slice A4 n4 c4) (j := 0) (x6 := .slice none 0 0) (p := p) (q := q) (x9 := .slice A9 n9 c9) (show W.drew.heap[w.heap.size + 1]? = _ from hz) rfl rfl rfl rfl
  clear hx hz
  refine nZ (n := 19) (S := fun w' => w'.cell? ⟨w.heap.size, 0, none⟩ = some (.int .u8 k) ∧ w'.cell? ⟨w.heap.size, 1, none⟩ = some (.int .u32 i) ∧ w'.cell? ⟨w.heap.size, 2, none⟩ = some (.int .u32 a) ∧ w'.cell? ⟨w.heap.size, 3, none⟩ = some (.slice A3 n3 c3) ∧ w'.cell? ⟨w.heap.size, 4, none⟩ = some (.slice A4 n4 c4) ∧ w'.cell? ⟨w.heap.size, 5, none⟩ = some (.int .i64 p) ∧ w'.cell? ⟨w.heap.size, 6, none⟩ = some (.int .i64 q) ∧ w'.cell? ⟨w.heap.size, 7, none⟩ = some (.slice A9 n9 c9)) (ds := [18]) #[false, false, false, false, false, false, false, false, false, false, false, false, false, false, false, false, false, false, false] (by kernel_rfl) rfl rfl ⟨(iE HX.out 0).trans rfl, (iE HX.out 1).trans rfl, (iE HX.out 2).trans rfl, (iE HX.out 3).trans rfl, (iE HX.out 4).trans rfl, (iE HX.out 5).trans rfl, (iE HX.out 6).trans rfl, (iE HX.out 7).trans rfl⟩ (fun hHeld => ?_)
  refine lD (T := (true, [([], []), ([0], [0]), ([1], [1]), ([], []), ([3], [3]), ([], []), ([5], [5]), ([], []), ([7], [7]), ([], []), ([9], [9]), ([], []), ([11], [11]), ([], []), ([13], [13]), ([], []), ([15], [15]), ([2, 4, 6, 8, 10, 12, 14, 16], [2, 4, 6, 8, 10, 12, 14, 16]), ([17, 2, 0, 1, 2, 3, 4, 5, 6, 7, 8, 9, 10, 11, 12, 13, 14, 15, 16, 17], [17])])) (B := [0, 1, 3, 0, 8, 0, 32, 0, 128, 0, 512, 0, 2048, 0, 8192, 0, 32768, 131071, 262143]) (by kernel_rfl) (by kernel_rfl) (fun HT_ HW_ => ?_)
  refine jF (i := 0) (N := some 3) (v := ?_) (a' := ?_) #[true, false, false, false, false, false, false, false, false, false, false, false, false, false, false, false, false, false, false] rfl rfl (iZ HT_.out (by kernel_rfl)) (fun _ _ _ h => h) (Or.inl ⟨by rfl, ?_⟩) ?_ ?_
  rotate_left
  · intro w'
    go_simp
    with_reducible rfl
  rotate_left
  · simp only [Act.put, List.setIfInBounds_toArray, List.set_cons_zero, List.set_cons_succ, iP, iY]
    rfl
  refine jF (i := 3) (N := some 6) (v := ?_) (a' := ?_) #[true, false, false, true, false, false, false, false, false, false, false, false, false, false, false, false, false, false, false] rfl rfl (iZ HT_.out (by kernel_rfl)) (fun _ _ _ h => h) (Or.inl ⟨by rfl, ?_⟩) ?_ ?_
  rotate_left
  · intro w'
    go_simp
    with_reducible rfl
  rotate_left
  · simp only [Act.put, List.setIfInBounds_toArray, List.set_cons_zero, List.set_cons_succ, iP, iY]
    rfl
  refine jF (i := 5) (N := some 8) (v := ?_) (a' := ?_) #[true, false, false, true, false, true, false, false, false, false, false, false, false, false, false, false, false, false, false] rfl rfl (iZ HT_.out (by kernel_rfl)) (fun _ _ _ h => h) (Or.inl ⟨by rfl, ?_⟩) ?_ ?_
  rotate_left
  · intro w'
    go_simp
    with_reducible rfl
  rotate_left
  · simp only [Act.put, List.setIfInBounds_toArray, List.set_cons_zero, List.set_cons_succ, iP, iY]
    rfl
  refine jF (i := 7) (N := some 10) (v := ?_) (a' := ?_) #[true, false, false, true, false, true, false, true, false, false, false, false, false, false, false, false, false, false, false] rfl rfl (iZ HT_.out (by kernel_rfl)) (fun _ _ _ h => h) (Or.inl ⟨by rfl, ?_⟩) ?_ ?_
  rotate_left
  · intro w'
    go_simp
    with_reducible rfl
  rotate_left
  · simp only [Act.put, List.setIfInBounds_toArray, List.set_cons_zero, List.set_cons_succ, iP, iY]
    rfl
  refine jF (i := 9) (N := some 12) (v := ?_) (a' := ?_) #[true, false, false, true, false, true, false, true, false, true, false, false, false, false, false, false, false, false, false] rfl rfl (iZ HT_.out (by kernel_rfl)) (fun _ _ _ h => h) (Or.inl ⟨by rfl, ?_⟩) ?_ ?_
  rotate_left
  · intro w'
    go_simp
    with_reducible rfl
  rotate_left
  · simp only [Act.put, List.setIfInBounds_toArray, List.set_cons_zero, List.set_cons_succ, iP, iY]
    rfl
  refine jF (i := 11) (N := some 14) (v := ?_) (a' := ?_) #[true, false, false, true, false, true, false, true, false, true, false, true, false, false, false, false, false, false, false] rfl rfl (iZ HT_.out (by kernel_rfl)) (fun _ _ _ h => h) (Or.inl ⟨by rfl, ?_⟩) ?_ ?_
  rotate_left
  · intro w'
    go_simp
    with_reducible rfl
  rotate_left
  · simp only [Act.put, List.setIfInBounds_toArray, List.set_cons_zero, List.set_cons_succ, iP, iY]
    rfl
  refine jF (i := 13) (N := some 16) (v := ?_) (a' := ?_) #[true, false, false, true, false, true, false, true, false, true, false, true, false, true, false, false, false, false, false] rfl rfl (iZ HT_.out (by kernel_rfl)) (fun _ _ _ h => h) (Or.inl ⟨by rfl, ?_⟩) ?_ ?_
  rotate_left
  · intro w'
    go_simp
    with_reducible rfl
  rotate_left
  · simp only [Act.put, List.setIfInBounds_toArray, List.set_cons_zero, List.set_cons_succ, iP, iY]
    rfl
  refine jF (i := 15) (N := some 18) (v := ?_) (a' := ?_) #[true, false, false, true, false, true, false, true, false, true, false, true, false, true, false, true, false, false, false] rfl rfl (iZ HT_.out (by kernel_rfl)) (fun _ _ _ h => h) (Or.inl ⟨by rfl, ?_⟩) ?_ ?_
  rotate_left
  · intro w'
    go_simp
    with_reducible rfl
  rotate_left
  · simp only [Act.put, List.setIfInBounds_toArray, List.set_cons_zero, List.set_cons_succ, iP, iY]
    rfl
  refine lQ (i := 1) (N := some 4) (v := ?_) (a' := ?_) #[true, true, false, true, false, true, false, true, false, true, false, true, false, true, false, true, false, false, false] rfl rfl (jL HT_.out HW_.out (by kernel_rfl)) (fun _ _ _ h => h) (Or.inl ⟨by rfl, ?_⟩) hHeld ?_ ?_
  rotate_left
  · rintro w' ⟨s0, s1, s2, s3, s4, s5, s6, s7⟩
    go_simp
    with_reducible rfl
  rotate_left
  · simp only [Act.put, List.setIfInBounds_toArray, List.set_cons_zero, List.set_cons_succ, iP, iY]
    rfl
  refine lQ (i := 4) (N := some 7) (v := ?_) (a' := ?_) #[true, true, false, true, true, true, false, true, false, true, false, true, false, true, false, true, false, false, false] rfl rfl (jL HT_.out HW_.out (by kernel_rfl)) (fun _ _ _ h => h) (Or.inl ⟨by rfl, ?_⟩) hHeld ?_ ?_
  rotate_left
  · rintro w' ⟨s0, s1, s2, s3, s4, s5, s6, s7⟩
    go_simp
    with_reducible rfl
  rotate_left
  · simp only [Act.put, List.setIfInBounds_toArray, List.set_cons_zero, List.set_cons_succ, iP, iY]
    rfl
  refine lQ (i := 6) (N := some 9) (v := ?_) (a' := ?_) #[true, true, false, true, true, true, true, true, false, true, false, true, false, true, false, true, false, false, false] rfl rfl (jL HT_.out HW_.out (by kernel_rfl)) (fun _ _ _ h => h) (Or.inl ⟨by rfl, ?_⟩) hHeld ?_ ?_
  rotate_left
  · rintro w' ⟨s0, s1, s2, s3, s4, s5, s6, s7⟩
    go_simp
    with_reducible rfl
  rotate_left
  · simp only [Act.put, List.setIfInBounds_toArray, List.set_cons_zero, List.set_cons_succ, iP, iY]
    rfl
  refine lQ (i := 8) (N := some 11) (v := ?_) (a' := ?_) #[true, true, false, true, true, true, true, true, true, true, false, true, false, true, false, true, false, false, false] rfl rfl (jL HT_.out HW_.out (by kernel_rfl)) (fun _ _ _ h => h) (Or.inl ⟨by rfl, ?_⟩) hHeld ?_ ?_
  rotate_left
  · rintro w' ⟨s0, s1, s2, s3, s4, s5, s6, s7⟩
    go_simp
    with_reducible rfl
  rotate_left
  · simp only [Act.put, List.setIfInBounds_toArray, List.set_cons_zero, List.set_cons_succ, iP, iY]
    rfl
  refine lQ (i := 10) (N := some 13) (v := ?_) (a' := ?_) #[true, true, false, true, true, true, true, true, true, true, true, true, false, true, false, true, false, false, false] rfl rfl (jL HT_.out HW_.out (by kernel_rfl)) (fun _ _ _ h => h) (Or.inl ⟨by rfl, ?_⟩) hHeld ?_ ?_
  rotate_left
  · rintro w' ⟨s0, s1, s2, s3, s4, s5, s6, s7⟩
    go_simp
    with_reducible rfl
  rotate_left
  · simp only [Act.put, List.setIfInBounds_toArray, List.set_cons_zero, List.set_cons_succ, iP, iY]
    rfl
  refine lQ (i := 12) (N := some 15) (v := ?_) (a' := ?_) #[true, true, false, true, true, true, true, true, true, true, true, true, true, true, false, true, false, false, false] rfl rfl (jL HT_.out HW_.out (by kernel_rfl)) (fun _ _ _ h => h) (Or.inl ⟨by rfl, ?_⟩) hHeld ?_ ?_
  rotate_left
  · rintro w' ⟨s0, s1, s2, s3, s4, s5, s6, s7⟩
    go_simp
    with_reducible rfl
  rotate_left
  · simp only [Act.put, List.setIfInBounds_toArray, List.set_cons_zero, List.set_cons_succ, iP, iY]
    rfl
  refine lQ (i := 14) (N := some 17) (v := ?_) (a' := ?_) #[true, true, false, true, true, true, true, true, true, true, true, true, true, true, true, true, false, false, false] rfl rfl (jL HT_.out HW_.out (by kernel_rfl)) (fun _ _ _ h => h) (Or.inl ⟨by rfl, ?_⟩) hHeld ?_ ?_
  rotate_left
  · rintro w' ⟨s0, s1, s2, s3, s4, s5, s6, s7⟩
    go_simp
    with_reducible rfl
  rotate_left
  · simp only [Act.put, List.setIfInBounds_toArray, List.set_cons_zero, List.set_cons_succ, iP, iY]
    rfl
  refine lQ (i := 16) (N := some 19) (v := ?_) (a' := ?_) #[true, true, false, true, true, true, true, true, true, true, true, true, true, true, true, true, true, false, false] rfl rfl (jL HT_.out HW_.out (by kernel_rfl)) (fun _ _ _ h => h) (Or.inl ⟨by rfl, ?_⟩) hHeld ?_ ?_
  rotate_left
  · rintro w' ⟨s0, s1, s2, s3, s4, s5, s6, s7⟩
    go_simp
    with_reducible rfl
  rotate_left
  · simp only [Act.put, List.setIfInBounds_toArray, List.set_cons_zero, List.set_cons_succ, iP, iY]
    rfl
  refine one_ (i := 2) (N := some 5) #[true, true, true, true, true, true, true, true, true, true, true, true, true, true, true, true, true, false, false] rfl rfl (kU HT_.out (by kernel_rfl)) (by decide) (fun K hK => ?_)
  refine pW Tryd.func103 (by kernel_rfl) rfl #[.int .u8 k] (by rfl) rfl rfl (by simp only [List.map_toArray, List.map_cons, List.map_nil]; rfl) ?_
  with_reducible refine (TN k _).mono ?_
  rintro e w2 ⟨rfl, rfl⟩
  refine ⟨_, rfl, ?_⟩
  refine hK.out _ _ ⟨(iE HX.out 0).trans rfl, (iE HX.out 1).trans rfl, (iE HX.out 2).trans rfl, (iE HX.out 3).trans rfl, (iE HX.out 4).trans rfl, (iE HX.out 5).trans rfl, (iE HX.out 6).trans rfl, (iE HX.out 7).trans rfl⟩ (fun hHeld => ?_)
  clear hK K
  refine kY (a' := ?_) ?_ ?_
  rotate_left
  · show Act.put _ (some 5) _ = _
    simp only [Act.put, List.setIfInBounds_toArray, List.set_cons_zero, List.set_cons_succ, iP, iY]
    rfl
  refine jF (i := 17) (N := some 20) (v := ?_) (a' := ?_) #[true, true, true, true, true, true, true, true, true, true, true, true, true, true, true, true, true, true, false] rfl rfl (iZ HT_.out (by kernel_rfl)) (fun _ _ _ h => h) (Or.inl ⟨by rfl, ?_⟩) ?_ ?_
  rotate_left
  · intro w'
    go_simp
    with_reducible rfl
  rotate_left
  · simp only [Act.put, List.setIfInBounds_toArray, List.set_cons_zero, List.set_cons_succ, iP, iY]
    rfl
  refine QE (i := 18) (N := none) #[true, true, true, true, true, true, true, true, true, true, true, true, true, true, true, true, true, true, true] rfl rfl (kU HT_.out (by kernel_rfl)) (by decide) (fun K hK => ?_)
  refine NZ (w1 := ?_) (by rfl) rfl ?_ ?_
  rotate_left
  · go_simp
    rfl
  refine hK.out _ _ ?_
  clear hK K
  refine vW (mZ HT_.out (by kernel_rfl)) ?_
  (try go_wp2)
  ((try simp only [Exit.inBlock, Exit.then]); exact bodyPost_ret (VH rfl rfl (setRow_heap _ _ _ _ _ _ (show W.drew.heap[w.heap.size + 1]? = _ from HZ.out)) rfl) rfl ⟨rfl, below_grown (g := w.heap.size + 1) (show Below w.heap.size w W.drew from iJ HB.out) (jC _ _ _) (Nat.le_succ _) (Nat.le_refl _)⟩)
end Go.Proofs.YtgfkgppomaapiaaDoor.K
end

section
namespace Go.Proofs.YtgfkgppomaapiaaDoor.K
open Go Go.RowKit Go.Proofs.YtgfkgppomaapiaaDoorW.PrintWords Go.Proofs.YtgfkgppomaapiaaDoorW.PrintLast Go.Proofs.YtgfkgppomaapiaaDoorW.PrintMore Go.Proofs.YtgfkgppomaapiaaDoor.My
/-- A message's parts, as they lie in a world. -/
structure pG (w : World) (m : SMsg) (A3 : Option Addr) (a3 : Nat) (A4 : Option Addr) (a4 : Nat) (A9 : Option Addr) (a9 : Nat) : Prop where
  h3 : Kd.C (Kd.int .i64) w A3 m.f3.length m.f3
  d3 : m.f3.length ≤ a3
  h4 : Kd.C k139 w A4 m.f4.length m.f4
  d4 : m.f4.length ≤ a4
  h9 : Kd.C k86 w A9 m.f7.length m.f7
  d9 : m.f7.length ≤ a9
section
variable {w w' : World} {m : SMsg} {A3 A4 A9 : Option Addr} {a3 a4 a9 : Nat}
theorem pG.below (h : pG w m A3 a3 A4 a4 A9 a9) (hb : Below w.heap.size w w') : pG w' m A3 a3 A4 a4 A9 a9 :=
  ⟨Kd.C_below h.h3 hb, h.d3, Kd.C_below h.h4 hb, h.d4, Kd.C_below h.h9 hb, h.d9⟩
theorem oZ (h : pG w m A3 a3 A4 a4 A9 a9) {S : Bool} (hS : jP (recM m) = S) : Calls Tryd.prog 19 #[.agg #[.int .u8 (mY m.f0), .int .u32 m.f1, .int .u32 m.f2, .slice A3 m.f3.length a3, .slice A4 m.f4.length a4, .int .u32 0, .slice none 0 0, .int .i64 m.f5, .int .i64 m.f6, .slice A9 m.f7.length a9]] w fun e w' => e = .returned (.bool S) ∧ Below w.heap.size w w' :=
  code_Sound.calls (mY m.f0) m.f1 m.f2 A3 a3 m.f3 A4 a4 m.f4 0 none 0 [] m.f5 m.f6 A9 a9 m.f7 S w h.h3 h.d3 h.h4 h.d4 (Kd.C_nil _ _) (Nat.le_refl _) h.h9 h.d9 (congrArg some hS)
theorem IQ (h : pG w m A3 a3 A4 a4 A9 a9) {E1 : List Int} {E2 : Int} (hE : encR (recM m) = (E1, E2)) : Calls Tryd.prog 17 #[.agg #[.int .u8 (mY m.f0), .int .u32 m.f1, .int .u32 m.f2, .slice A3 m.f3.length a3, .slice A4 m.f4.length a4, .int .u32 0, .slice none 0 0, .int .i64 m.f5, .int .i64 m.f6, .slice A9 m.f7.length a9]] w fun e w' => ∃ v0_ : Value, e = .returned (.tuple #[v0_, .int .u16 E2]) ∧ Kd.R (Kd.int .u8) 5 w' w.heap.size (fun _ => True) v0_ E1 ∧ Below w.heap.size w w' :=
  code_Encode.calls (mY m.f0) m.f1 m.f2 A3 a3 m.f3 A4 a4 m.f4 0 none 0 [] m.f5 m.f6 A9 a9 m.f7 E1 E2 w h.h3 h.d3 h.h4 h.d4 (Kd.C_nil _ _) (Nat.le_refl _) h.h9 h.d9 (congrArg some hE)
end
theorem TA {m : SMsg} (h : preM m = false) : mW m = false := by unfold mW; rw [h]; rfl
theorem qQ {m : SMsg} (h : preM m = true) : mW m = jP (recM m) := by unfold mW; rw [h]; rfl
set_option maxRecDepth 20000 in
set_option maxHeartbeats 8000000 in
theorem zN (m : SMsg) (A3 : Option Addr) (a3 : Nat) (A4 : Option Addr) (a4 : Nat) (A9 : Option Addr) (a9 : Nat) (w : World) (h : pG w m A3 a3 A4 a4 A9 a9) :
    Calls Tryd.prog 30 #[.agg #[.int .u8 m.f0, .int .u32 m.f1, .int .u32 m.f2, .slice A3 m.f3.length a3, .slice A4 m.f4.length a4, .int .i64 m.f5, .int .i64 m.f6, .slice A9 m.f7.length a9]] w fun e w' => e = .returned (.bool (mW m)) ∧ Below w.heap.size w w' := by
  have hb : Below w.heap.size w (w.alloc (.cells #[.int .u8 m.f0, .int .u32 m.f1, .int .u32 m.f2, .slice A3 m.f3.length a3, .slice A4 m.f4.length a4, .int .i64 m.f5, .int .i64 m.f6, .slice A9 m.f7.length a9] 51)) := iF (Below.refl _ _) _
  have HX := iD.mk (show (w.alloc (.cells #[.int .u8 m.f0, .int .u32 m.f1, .int .u32 m.f2, .slice A3 m.f3.length a3, .slice A4 m.f4.length a4, .int .i64 m.f5, .int .i64 m.f6, .slice A9 m.f7.length a9] 51)).heap[w.heap.size]? = some (.cells #[.int .u8 m.f0, .int .u32 m.f1, .int .u32 m.f2, .slice A3 m.f3.length a3, .slice A4 m.f4.length a4, .int .i64 m.f5, .int .i64 m.f6, .slice A9 m.f7.length a9] 51 (0, 0)) from iT rfl)
  have HL := iD.mk (h.below hb)
  have HB := iD.mk hb
  clear h hb
  obtain ⟨S, hS⟩ : ∃ S, mW m = S := ⟨_, rfl⟩
  rw [hS]
  have HS := iD.mk hS
  clear hS
  have hpre : preM m = (!(decide (m.f0 = 4) && decide (0 < m.f3.length)) && !(decide (m.f0 = 8) && decide (0 < m.f7.length)) && !(decide (m.f0 = 9) && (!decide (m.f5 = 0) || !decide (m.f6 = 0)))) := rfl
  obtain ⟨k, i, a, l3, l4, p, q, l7⟩ := m
  simp only at HX HL hpre ⊢
  have bad : preM ⟨k, i, a, l3, l4, p, q, l7⟩ = false → S = false := fun h => by rw [← HS.out]; exact TA h
  have good : preM ⟨k, i, a, l3, l4, p, q, l7⟩ = true → jP (recM ⟨k, i, a, l3, l4, p, q, l7⟩) = S := fun h => by rw [← HS.out]; exact (qQ h).symm
  by_cases h4 : k = 4
  · subst h4
    by_cases hl : 0 < l3.length
    · have hf := bad (by rw [hpre]; simp [hl])
      subst hf
      clear bad good hpre
      obtain ⟨z0, z1, z2, z3, z4, z5, z6, z7, y0, y1, y2, y3, y4, y5, y6, y7⟩ := eight HX.out
      go_enter Tryd.func30, Tryd.ntmps30
      go_wp2
      go_ret
      exact ⟨rfl, HB.out⟩
    · have hf := good (by rw [hpre]; simp [hl])
      clear bad good hpre
      have HF := iD.mk hf
      clear hf
      obtain ⟨z0, z1, z2, z3, z4, z5, z6, z7, y0, y1, y2, y3, y4, y5, y6, y7⟩ := eight HX.out
      go_enter Tryd.func30, Tryd.ntmps30
      (go_wp2_with fail; go_at_call 80; (with_reducible refine (oK _ _ _ _ _ _ _ _ _ _ _ _ _ _ _).mono ?_); rintro e w1 ⟨rfl, hb1⟩; have HB1 := iD.mk (iL HB.out hb1); have HL1 := iD.mk (HL.out.below hb1); clear hb1 z0 z1 z2 z3 z4 z5 z6 z7 y0 y1 y2 y3 y4 y5 y6 y7; go_wp2_with fail; go_at_call 19; (refine (oZ HL1.out HF.out).mono ?_); rintro e w2 ⟨rfl, hb2⟩; go_wp2; go_ret; exact ⟨rfl, iL HB1.out hb2⟩)
  by_cases h8 : k = 8
  · subst h8
    by_cases hl : 0 < l7.length
    · have hf := bad (by rw [hpre]; simp [hl])
      subst hf
      clear bad good hpre
      obtain ⟨z0, z1, z2, z3, z4, z5, z6, z7, y0, y1, y2, y3, y4, y5, y6, y7⟩ := eight HX.out
      go_enter Tryd.func30, Tryd.ntmps30
      go_wp2
      go_ret
      exact ⟨rfl, HB.out⟩
    · have hf := good (by rw [hpre]; simp [hl])
      clear bad good hpre
      have HF := iD.mk hf
      clear hf
      obtain ⟨z0, z1, z2, z3, z4, z5, z6, z7, y0, y1, y2, y3, y4, y5, y6, y7⟩ := eight HX.out
      go_enter Tryd.func30, Tryd.ntmps30
      (go_wp2_with fail; go_at_call 80; (with_reducible refine (oK _ _ _ _ _ _ _ _ _ _ _ _ _ _ _).mono ?_); rintro e w1 ⟨rfl, hb1⟩; have HB1 := iD.mk (iL HB.out hb1); have HL1 := iD.mk (HL.out.below hb1); clear hb1 z0 z1 z2 z3 z4 z5 z6 z7 y0 y1 y2 y3 y4 y5 y6 y7; go_wp2_with fail; go_at_call 19; (refine (oZ HL1.out HF.out).mono ?_); rintro e w2 ⟨rfl, hb2⟩; go_wp2; go_ret; exact ⟨rfl, iL HB1.out hb2⟩)
  by_cases h9 : k = 9
  · subst h9
    by_cases hp : p = 0
    · subst hp
      by_cases hq : q = 0
      · subst hq
        have hf := good (by rw [hpre]; simp)
        clear bad good hpre
        have HF := iD.mk hf
        clear hf
        obtain ⟨z0, z1, z2, z3, z4, z5, z6, z7, y0, y1, y2, y3, y4, y5, y6, y7⟩ := eight HX.out
        go_enter Tryd.func30, Tryd.ntmps30
        (go_wp2_with fail; go_at_call 80; (with_reducible refine (oK _ _ _ _ _ _ _ _ _ _ _ _ _ _ _).mono ?_); rintro e w1 ⟨rfl, hb1⟩; have HB1 := iD.mk (iL HB.out hb1); have HL1 := iD.mk (HL.out.below hb1); clear hb1 z0 z1 z2 z3 z4 z5 z6 z7 y0 y1 y2 y3 y4 y5 y6 y7; go_wp2_with fail; go_at_call 19; (refine (oZ HL1.out HF.out).mono ?_); rintro e w2 ⟨rfl, hb2⟩; go_wp2; go_ret; exact ⟨rfl, iL HB1.out hb2⟩)
      · have hf := bad (by rw [hpre]; simp [hq])
        subst hf
        clear bad good hpre
        obtain ⟨z0, z1, z2, z3, z4, z5, z6, z7, y0, y1, y2, y3, y4, y5, y6, y7⟩ := eight HX.out
        go_enter Tryd.func30, Tryd.ntmps30
        go_wp2
        go_ret
        exact ⟨rfl, HB.out⟩
    · have hf := bad (by rw [hpre]; simp [hp])
      subst hf
      clear bad good hpre
      obtain ⟨z0, z1, z2, z3, z4, z5, z6, z7, y0, y1, y2, y3, y4, y5, y6, y7⟩ := eight HX.out
      go_enter Tryd.func30, Tryd.ntmps30
      go_wp2
      go_ret
      exact ⟨rfl, HB.out⟩
  · have hf := good (by rw [hpre]; simp [h4, h8, h9])
    clear bad good hpre
    have HF := iD.mk hf
    clear hf
    obtain ⟨z0, z1, z2, z3, z4, z5, z6, z7, y0, y1, y2, y3, y4, y5, y6, y7⟩ := eight HX.out
    go_enter Tryd.func30, Tryd.ntmps30
    (go_wp2_with fail; go_at_call 80; (with_reducible refine (oK _ _ _ _ _ _ _ _ _ _ _ _ _ _ _).mono ?_); rintro e w1 ⟨rfl, hb1⟩; have HB1 := iD.mk (iL HB.out hb1); have HL1 := iD.mk (HL.out.below hb1); clear hb1 z0 z1 z2 z3 z4 z5 z6 z7 y0 y1 y2 y3 y4 y5 y6 y7; go_wp2_with fail; go_at_call 19; (refine (oZ HL1.out HF.out).mono ?_); rintro e w2 ⟨rfl, hb2⟩; go_wp2; go_ret; exact ⟨rfl, iL HB1.out hb2⟩)
end Go.Proofs.YtgfkgppomaapiaaDoor.K
end

section
namespace Go.Proofs.YtgfkgppomaapiaaDoor.My
open Go Go.RowKit Go.Proofs.YtgfkgppomaapiaaDoorW.PrintWords
/-- A row of bytes that is new. -/
def OB (w : World) (base : Nat) (v : Value) (l : List UInt8) : Prop := kb.R 5 w base (fun _ => True) v l
theorem OB.nil (w : World) (base : Nat) : OB w base (.slice none 0 0) [] := Kd.R_nil _ _ _ _ _
theorem NF : (Tryd.prog.info? 5).map (fun i => (i.zero, i.size, i.bytes)) = some (some (.int .u8 0), kb.sz, 1) := by kernel_rfl
theorem OB.empty (w : World) : OB (w.alloc (.cells #[] 5)) w.heap.size (.slice (some ⟨w.heap.size, 0, none⟩) 0 0) [] := by
  refine Kd.R_of_own ?_ (fun _ _ => trivial)
  have h := World.ownsRow_lit (base := w.heap.size) (e := 5) (size := 1) w #[] 0 (Nat.le_refl _) (by simp) (by simp)
  simpa [encs] using h
set_option maxHeartbeats 1000000 in
theorem RF (n : Nat) (w : World) (hn : n ≤ 140737488355327) :
    Calls Tryd.prog 104 #[.slice none 0 0, .int .i64 (n : Int)] w fun e w' => ∃ v, e = .returned v ∧ OB w' w.heap.size v [] ∧ Below w.heap.size w w' := by
  have hn0 : ¬ (n : Int) < 0 := by omega
  by_cases h0 : (0 : Int) < n
  · go_enter Tryd.func104, Tryd.ntmps104
    go_wp2_with (at_builtin; refine Kd.R_append_zeros kb (w0 := w) w.heap.size rfl (.tmp 20) (.tmp 21) 33 3 5 (.int .u8 0) 1 rfl Tryd.underlying33 Tryd.underlying3 NF rfl (by decide) (by omega) (.slice none 0 0) [] 0 (n : Int) (fun _ => True) rfl rfl rfl (fun _ _ => trivial) (Kd.R_nil _ _ _ _ _) (by omega) ?aB ?aS ?aL ?_; (case aB => (repeat (first | exact Below.refl _ _ | apply iF | apply lG | apply iG | apply below_bytesWorld | (refine iH ?_ (by first | assumption | omega)) | refine iL ?_ (by assumption)))); (case aS => exact iQ (by (repeat (first | exact Below.refl _ _ | apply iF | apply lG | apply iG | apply below_bytesWorld | (refine iH ?_ (by first | assumption | omega)) | refine iL ?_ (by assumption))))); (case aL => simp; omega); intro v1 w2 HO HB hg hat; rw [List.nil_append, Int.toNat_natCast] at HO; obtain ⟨g, cap, rfl, hlc, hgb, _, hfr, hC1⟩ := VC HO (by simp; omega); have HR := iD.mk HO; clear HO hg hat hfr hC1; rw [List.length_replicate] at HR hlc; rw [List.length_replicate])
    go_ret
    exact ⟨_, rfl, Kd.R_take (m := 0) HR.out (Nat.zero_le _), HB⟩
  · go_enter Tryd.func104, Tryd.ntmps104
    go_wp2_with fail
    go_ret
    exact ⟨_, rfl, OB.nil _ _, by (repeat (first | exact Below.refl _ _ | apply iF | apply lG | apply iG | apply below_bytesWorld | (refine iH ?_ (by first | assumption | omega)) | refine iL ?_ (by assumption)))⟩
theorem J3 (l : List (List UInt8)) (k : Nat) (h : k < l.length) : (l.take (k + 1)).flatten = (l.take k).flatten ++ l.getD k [] := by
  rw [lT [] l k h, List.flatten_append]
  simp
theorem QT (l : List (List UInt8)) (k : Nat) : (l.take k).flatten.length ≤ l.flatten.length := by
  conv => rhs; rw [← List.take_append_drop k l, List.flatten_append, List.length_append]
  omega
def pO (l : List (List UInt8)) : Nat := l.flatten.length
set_option maxHeartbeats 1000000 in
theorem MI (A : Option Addr) (c : Nat) (l : List (List UInt8)) (w : World) (hr : (Kd.slice 5 kb).C w A l.length l) (hs : l.flatten.length ≤ 140737488355327) :
    Calls Tryd.prog 81 #[.slice A l.length c] w fun e w' => ∃ v, e = .returned v ∧ OB w' w.heap.size v l.flatten ∧ Below w.heap.size w w' := by
  have hm := lC hr
  have HR := iD.mk hr
  clear hr
  go_enter Tryd.func81, Tryd.ntmps81
  go_wp2
  go_loop [3, 11] (fun s i => ∃ k : Nat, k ≤ l.length ∧ i = .int .i64 k ∧ s = .int .i64 (pO (l.take k) : Int)) (fun _ i => l.length - (intOf i).toNat)
  case atStart => exact ⟨0, Nat.zero_le _, rfl, rfl⟩
  case round =>
    obtain ⟨k, hk, rfl, rfl⟩ := hrel
    by_cases hlt : k < l.length
    · obtain ⟨ad, A', c', rfl, hx, hxl, hxc⟩ := WZ HR.out k hlt
      have hf := J3 l k hlt
      have hle := QT l (k + 1)
      have hadd : (pO (l.take k) : Int) + ((l.getD k []).length : Int) = (pO (l.take (k + 1)) : Int) := by unfold pO; rw [hf, List.length_append]; omega
      have hb1 : ((pO (l.take k) : Int) + ((l.getD k []).length : Int)) ≤ 140737488355327 := by rw [hadd]; unfold pO; omega
      have HADD := iD.mk hadd
      clear hf hle hadd hxl hxc
      generalize (l.getD k []).length = m at hx hb1 HADD
      have hb0 : ¬ (pO (l.take k) : Int) + (m : Int) < 0 := by omega
      generalize pO (l.take k) = q at hb1 HADD hb0
      go_wp2
      go_round
      case rel => exact ⟨k + 1, by omega, by go_num, by rw [HADD.out]⟩
      case measure => simp [intOf]; omega
    · obtain rfl : k = l.length := by omega
      simp only [List.take_length]
      go_wp2_with fail
      refine (RF (pO l) _ hs).mono ?_
      rintro e w1 ⟨v0, rfl, HO0, hb1⟩
      have HO0' := iD.mk HO0
      clear HO0
      go_wp2
      go_loopw [6, 27] (fun v i wr => ∃ k : Nat, k ≤ l.length ∧ i = .int .i64 k ∧ iD (OB wr w.heap.size v (l.take k).flatten) ∧ iD (Below w.heap.size w wr)) (fun _ i _ => l.length - (intOf i).toNat)
      case atStart => exact ⟨0, Nat.zero_le _, rfl, HO0', ⟨hb1⟩⟩
      case round =>
        obtain ⟨k, hk, rfl, HO, HB⟩ := hrel
        by_cases hlt : k < l.length
        · obtain ⟨ad, A', c', rfl, hx, hxl, hxc⟩ := WZ HR.out k hlt
          have hx' := XO HB.out hx
          have HX := iD.mk (Kd.C_below hxc HB.out)
          have HF := iD.mk (J3 l k hlt)
          have hle : (l.take k).flatten.length + (l.getD k []).length ≤ 140737488355327 := by have := QT l (k + 1); rw [HF.out, List.length_append] at this; omega
          clear hx hxl hxc
          obtain ⟨x, hxe⟩ : ∃ x, x = l.getD k [] := ⟨_, rfl⟩
          rw [← hxe] at hx' HX HF hle
          clear hxe
          go_wp2_with (at_builtin; refine Kd.R_append_rows kb (w0 := w) w.heap.size rfl (.tmp 31) (.tmp 32) 33 5 (.int .u8 0) 1 rfl Tryd.underlying33 NF rfl (by decide) (by omega) _ _ x _ _ _ (fun _ => True) (fun _ => False) rfl rfl HO.out HX.out (fun _ _ h => h) (fun _ h => h.elim) (fun _ _ => trivial) HB.out HB.out.size (by omega) ?_; intro v1 w2 HO1 HB1 hg hat; have HO1' := iD.mk HO1; have HB1' := iD.mk HB1; clear HO1 HB1 hg hat)
          go_roundw
          case rel => exact ⟨k + 1, by omega, by go_num, ⟨by rw [HF.out]; exact HO1'.out⟩, HB1'⟩
          case measure => simp [intOf]; omega
        · obtain rfl : k = l.length := by omega
          have HO2 := HO.out
          rw [List.take_length] at HO2
          have HO2' := iD.mk HO2
          clear HO2
          go_wp2
          go_ret
          exact ⟨_, rfl, HO2'.out, HB.out⟩
end Go.Proofs.YtgfkgppomaapiaaDoor.My
end

section
namespace Go.Proofs.YtgfkgppomaapiaaDoor.K
open Go Go.RowKit Go.Proofs.YtgfkgppomaapiaaDoorW.PrintWords Go.Proofs.YtgfkgppomaapiaaDoorW.PrintLast Go.Proofs.YtgfkgppomaapiaaDoorW.PrintMore Go.Proofs.YtgfkgppomaapiaaDoor.My
theorem WH {w : World} {base : Nat} {v : Value} {l : List UInt8} (h : OB w base v l) : Kd.R (Kd.int .u8) 5 w base (fun _ => True) v (nums l) := by
  have h1 := Kd.own_of_R h
  refine Kd.R_of_own ?_ (fun _ _ => trivial)
  rw [kH]
  have : encs (fun n : Int => Value.int .u8 n) (nums l) = encs (fun b : UInt8 => Value.int .u8 (b.toNat : Int)) l := by
    unfold nums encs
    simp [List.map_map, Function.comp_def]
  rw [this]
  exact h1
theorem zX {k : Int} (h0 : 0 ≤ k) (h1 : k < 256) : ∃ b : UInt8, k = (b.toNat : Int) := ⟨UInt8.ofNat k.toNat, by rw [UInt8.toNat_ofNat']; omega⟩
def TU (w : World) (E1 : List Int) (E2 : Int) (e : Ending) (w' : World) : Prop := ∃ v0_ : Value, e = .returned (.tuple #[v0_, .int .u16 E2]) ∧ Kd.R (Kd.int .u8) 5 w' w.heap.size (fun _ => True) v0_ E1 ∧ Below w.heap.size w w'
set_option maxRecDepth 20000 in
set_option maxHeartbeats 8000000 in
theorem pK (m : SMsg) (A3 : Option Addr) (a3 : Nat) (A4 : Option Addr) (a4 : Nat) (A9 : Option Addr) (a9 : Nat) (w : World) (h : pG w m A3 a3 A4 a4 A9 a9) (h0 : 0 ≤ m.f0 ∧ m.f0 < 256) {E1 : List Int} {E2 : Int} (hE : encM m = (E1, E2)) :
    Calls Tryd.prog 28 #[.agg #[.int .u8 m.f0, .int .u32 m.f1, .int .u32 m.f2, .slice A3 m.f3.length a3, .slice A4 m.f4.length a4, .int .i64 m.f5, .int .i64 m.f6, .slice A9 m.f7.length a9]] w (TU w E1 E2) := by
  have hb : Below w.heap.size w (w.alloc (.cells #[.int .u8 m.f0, .int .u32 m.f1, .int .u32 m.f2, .slice A3 m.f3.length a3, .slice A4 m.f4.length a4, .int .i64 m.f5, .int .i64 m.f6, .slice A9 m.f7.length a9] 51)) := iF (Below.refl _ _) _
  have HX := iD.mk (show (w.alloc (.cells #[.int .u8 m.f0, .int .u32 m.f1, .int .u32 m.f2, .slice A3 m.f3.length a3, .slice A4 m.f4.length a4, .int .i64 m.f5, .int .i64 m.f6, .slice A9 m.f7.length a9] 51)).heap[w.heap.size]? = some (.cells #[.int .u8 m.f0, .int .u32 m.f1, .int .u32 m.f2, .slice A3 m.f3.length a3, .slice A4 m.f4.length a4, .int .i64 m.f5, .int .i64 m.f6, .slice A9 m.f7.length a9] 51 (0, 0)) from iT rfl)
  have HL := iD.mk (h.below hb)
  have HB := iD.mk hb
  have hsound := zN m A3 a3 A4 a4 A9 a9 _ HL.out
  obtain ⟨k8, hk8⟩ := zX h0.1 h0.2
  have HK := iD.mk hk8
  have HE := iD.mk hE
  clear h hb h0 hk8 hE
  obtain ⟨z0, z1, z2, z3, z4, z5, z6, z7, y0, y1, y2, y3, y4, y5, y6, y7⟩ := eight HX.out
  by_cases hs : mW m = true
  · rw [hs] at hsound
    have HS := iD.mk hs
    clear hs
    go_enter Tryd.func28, Tryd.ntmps28
    go_wp2_with fail
    go_at_call 30
    refine hsound.mono ?_
    rintro e w1 ⟨rfl, hb1⟩
    have HX1 := iD.mk (iM hb1 HX.out)
    have HL1 := iD.mk (HL.out.below hb1)
    have HB1 := iD.mk (iL HB.out hb1)
    clear hsound hb1 z0 z1 z2 z3 z4 z5 z6 z7 y0 y1 y2 y3 y4 y5 y6 y7
    obtain ⟨z0, z1, z2, z3, z4, z5, z6, z7, y0, y1, y2, y3, y4, y5, y6, y7⟩ := eight HX1.out
    go_wp2_with fail
    go_at_call 80
    (refine (oK _ _ _ _ _ _ _ _ _ _ _ _ _ _ _).mono ?_)
    rintro e w2 ⟨rfl, hb2⟩
    have HX2 := iD.mk (iM hb2 HX1.out)
    have HL2 := iD.mk (HL1.out.below hb2)
    have HB2 := iD.mk (iL HB1.out hb2)
    clear hb2 z0 z1 z2 z3 z4 z5 z6 z7 y0 y1 y2 y3 y4 y5 y6 y7
    obtain ⟨⟨F1, F2⟩, hF⟩ : ∃ F : List Int × Int, encR (recM m) = F := ⟨_, rfl⟩
    have hEF : encM m = if F2 = 0 then (m.f0 :: F1, 0) else ([], F2) := by unfold encM; rw [if_pos HS.out, hF]
    rw [HE.out] at hEF
    have hcases := vC (recM m)
    have hsb : jP (recM m) = true := by have := HS.out; unfold mW at this; simp only [Bool.and_eq_true] at this; exact this.2
    rw [hF] at hcases
    have hlen : F2 = 0 → F1.length ≤ 60000 := fun hz => by
      have hF' := hF
      unfold encR at hF'
      rw [if_pos hsb] at hF'
      split at hF'
      · injection hF' with _ h2; rw [← h2] at hz; cases hz
      · injection hF' with h1 _; rw [← h1, kH]; omega
    have hcall := IQ HL2.out hF
    clear hF hsb
    go_wp2_with fail
    go_at_call 17
    refine hcall.mono ?_
    rintro e w3 ⟨v0, rfl, h0, hb3⟩
    have HX3 := iD.mk (iM hb3 HX2.out)
    have HB3 := iD.mk (iL HB2.out hb3)
    obtain ⟨A0, c0, rfl⟩ := Kd.R_slice h0
    obtain ⟨_, q0, C0⟩ := Kd.R_reads' h0
    clear hcall hb3 h0
    rcases hcases with hc | hc | hc
    · obtain ⟨rfl, rfl⟩ := Prod.mk.inj hc
      rw [if_neg (by decide)] at hEF
      obtain ⟨rfl, rfl⟩ := Prod.mk.inj hEF
      clear hEF hc hlen C0 q0
      go_wp2
      go_ret2
      exact ⟨_, rfl, Kd.R_nil _ _ _ _ _, HB3.out⟩
    · obtain ⟨rfl, rfl⟩ := Prod.mk.inj hc
      rw [if_neg (by decide)] at hEF
      obtain ⟨rfl, rfl⟩ := Prod.mk.inj hEF
      clear hEF hc hlen C0 q0
      go_wp2
      go_ret2
      exact ⟨_, rfl, Kd.R_nil _ _ _ _ _, HB3.out⟩
    · obtain ⟨hf1, rfl⟩ := Prod.mk.inj hc
      have hlen := hlen rfl
      subst hf1
      rw [if_pos rfl] at hEF
      obtain ⟨rfl, rfl⟩ := Prod.mk.inj hEF
      obtain ⟨l, hl⟩ : ∃ l, l = recE (recM m) := ⟨_, rfl⟩
      rw [← hl] at C0 q0 hlen ⊢
      rw [kH] at hlen q0
      have C0 : (Kd.int .u8).C w3 A0 l.length (nums l) := by rw [kH] at C0; exact C0
      have HC0 := iD.mk (qV C0)
      simp only [kH]
      have HLL := iD.mk hl
      clear hEF hc C0 hl
      obtain ⟨z0, z1, z2, z3, z4, z5, z6, z7, y0, y1, y2, y3, y4, y5, y6, y7⟩ := eight HX3.out
      rw [HK.out] at z0 ⊢
      go_wp2_with fail
      go_at_call 81
      refine (MI _ _ [[k8], l] _ (WV (by (repeat (first | (refine iT ?_; simp; done) | apply heap_drew' | apply jH | refine iM (by assumption) ?_))) rfl (by simp) (Cs.cons (n := 1) (Kd.C_below (XA (W := w3) rfl rfl (show (1 : Nat) ≤ 9223372036854775807 by decide) (by rfl)) (by (repeat (first | exact Below.refl _ _ | apply iF | apply lG | apply iG | apply below_bytesWorld | (refine iH ?_ (by first | assumption | omega)) | refine iL ?_ (by assumption))))) (Nat.le_refl _) (Cs.cons (n := l.length) (Kd.C_below HC0.out (by (repeat (first | exact Below.refl _ _ | apply iF | apply lG | apply iG | apply below_bytesWorld | (refine iH ?_ (by first | assumption | omega)) | refine iL ?_ (by assumption))))) q0 (Cs.nil _)))) (by simp; omega)).mono ?_
      rintro e w4 ⟨v4, rfl, ho4, hb4⟩
      have ho5 := WH ho4
      rw [show ([[k8], l] : List (List UInt8)).flatten = k8 :: l by simp] at ho5
      have HO := iD.mk (Kd.R_lower ho5 (iF (iF HB3.out _) _).size)
      have HB4 := iD.mk (show Below w.heap.size w w4 from iL (iF (iF HB3.out _) _) hb4)
      clear ho4 ho5 hb4 z0 z1 z2 z3 z4 z5 z6 z7 y0 y1 y2 y3 y4 y5 y6 y7
      go_wp2
      go_ret2
      exact ⟨_, rfl, (by have ho := HO.out; rw [HLL.out] at ho; rw [HK.out]; exact ho), HB4.out⟩
  · have hs : mW m = false := by simpa using hs
    rw [hs] at hsound
    have hEF : encM m = ([], 1) := by unfold encM; rw [hs, if_neg (by decide)]
    rw [HE.out] at hEF
    obtain ⟨rfl, rfl⟩ := Prod.mk.inj hEF
    clear hs hEF
    go_enter Tryd.func28, Tryd.ntmps28
    go_wp2_with fail
    go_at_call 30
    refine hsound.mono ?_
    rintro e w1 ⟨rfl, hb1⟩
    clear hsound
    go_wp2
    go_ret2
    exact ⟨_, rfl, Kd.R_nil _ _ _ _ _, iL HB.out hb1⟩
end Go.Proofs.YtgfkgppomaapiaaDoor.K
end
