/- Parts of the proof, one behind the other: K45, K1, K46, K47, K48, SameP, SoundL, Apart, RecOk, MakQ, MakW. -/
import Derived.Test.YtgfkgppomaapiaaDoorQCodeMakes8
set_option linter.unusedVariables false
set_option linter.unusedSimpArgs false
section
namespace Go.Proofs.YtgfkgppomaapiaaDoor.K
open Go.RowKit Go.Proofs.YtgfkgppomaapiaaDoorW.PrintWords Go.Proofs.YtgfkgppomaapiaaDoorW.PrintLast Go.Proofs.YtgfkgppomaapiaaDoorW.PrintMore
attribute [local go_sem] kC kN
def stratumref07_SameFacts.f (k : Nat) (l0 : List (S139)) (l1 : List (S139)) : Option (Bool) := (stratumref07_Facts.f k ([] : List Int) l0).bind fun t210 => ((stratumref07_Facts.f k ([] : List Int) l1).bind fun t213 => (some ((strOfNums t210).toList == (strOfNums t213).toList)))
def stratumref07_SameFacts.T1 : Bool × List (List Nat × List Nat) := (true, [([], []), ([0], [0]), ([1], [1]), ([], []), ([3, 1], [3]), ([4], [4]), ([2, 5], [2, 5]), ([6, 4, 0, 1, 2, 3, 4, 5, 6], [6])])
def stratumref07_SameFacts.B1 : List Nat := [0, 1, 3, 0, 11, 27, 63, 127]
theorem stratumref07_SameFacts.tab1 : rtab .any (opsOf Tryd.f76 1) = stratumref07_SameFacts.T1 := by kernel_rfl
theorem stratumref07_SameFacts.bits1 : mF stratumref07_SameFacts.T1.2 stratumref07_SameFacts.B1 = true := by kernel_rfl
set_option maxHeartbeats 8000000 in
set_option maxRecDepth 100000 in
theorem stratumref07_SameFacts.calls (k : Nat) (A0 : Option Addr) (c0 : Nat) (l0 : List (S139)) (A1 : Option Addr) (c1 : Nat) (l1 : List (S139)) (r : Bool) (w : World) (hr0 : Kd.C k139 w A0 l0.length l0) (hc0 : l0.length ≤ c0) (hr1 : Kd.C k139 w A1 l1.length l1) (hc1 : l1.length ≤ c1) (h : stratumref07_SameFacts.f k l0 l1 = some r) :
    Calls Tryd.prog 76 #[.slice A0 l0.length c0, .slice A1 l1.length c1] w fun e w' => e = .returned (.bool r) ∧ Below w.heap.size w w' := by
  have HR0 := iD.mk hr0
  have HC0 := iD.mk hc0
  clear hr0 hc0
  have HR1 := iD.mk hr1
  have HC1 := iD.mk hc1
  clear hr1 hc1
  have HB := iD.mk (Below.refl w.heap.size w)
  have H : ((stratumref07_Facts.f k ([] : List Int) l0).bind fun t210 => ((stratumref07_Facts.f k ([] : List Int) l1).bind fun t213 => (some ((strOfNums t210).toList == (strOfNums t213).toList)))) = some r := h
  clear h
  replace H := Option.bind_eq_some_iff.mp H
  obtain ⟨t210, A30, H⟩ := H
  replace H : ((stratumref07_Facts.f k ([] : List Int) l1).bind fun t213 => (some ((strOfNums t210).toList == (strOfNums t213).toList))) = some r := H
  have A3 := iD.mk A30
  clear A30
  replace H := Option.bind_eq_some_iff.mp H
  obtain ⟨t213, A40, H⟩ := H
  replace H : (some ((strOfNums t210).toList == (strOfNums t213).toList)) = some r := H
  have A4 := iD.mk A40
  clear A40
  obtain rfl := Option.some.inj H
  go_enter Tryd.func76, Tryd.ntmps76
  try go_wp2
  have n0_ := iD.mk (iH HB.out)
  clear HB
  have HB := n0_
  clear n0_
  refine qN (n := 8) (S := fun w' => True) (ds := []) #[false, false, false, false, false, false, false, false] (by kernel_rfl) rfl rfl trivial (fun hHeld => ?_); refine mO stratumref07_SameFacts.tab1 stratumref07_SameFacts.bits1 (fun HT_ HW_ => ?_)
  generalize w.drew = w5 at HB hHeld ⊢
  refine jM (i := 0) (N := some 5) (v := ?_) (a' := ?_) #[true, false, false, false, false, false, false, false] rfl rfl (jD HT_.out (by kernel_rfl)) (fun _ _ _ h => h) (Or.inl ⟨by rfl, ?_⟩) ?_ ?_
  rotate_left
  · intro w'
    go_simp
    with_reducible rfl
  rotate_left
  · simp only [Act.put, List.setIfInBounds_toArray, List.set_cons_zero, List.set_cons_succ, iY, jE]
    rfl
  refine jM (i := 3) (N := some 8) (v := ?_) (a' := ?_) #[true, false, false, true, false, false, false, false] rfl rfl (jD HT_.out (by kernel_rfl)) (fun _ _ _ h => h) (Or.inl ⟨by rfl, ?_⟩) ?_ ?_
  rotate_left
  · intro w'
    go_simp
    with_reducible rfl
  rotate_left
  · simp only [Act.put, List.setIfInBounds_toArray, List.set_cons_zero, List.set_cons_succ, iY, jE]
    rfl
  refine one_ (i := 1) (N := some 6) #[true, true, false, true, false, false, false, false] rfl rfl (lJ HT_.out (by kernel_rfl)) (by decide) (fun K hK => ?_)
  refine uN Tryd.func59 (by kernel_rfl) rfl #[.slice none 0 0, .slice A0 l0.length c0] (by rfl) rfl rfl (by (try simp only [List.map_toArray, List.map_cons, List.map_nil]); first | done | rfl | (simp only [List.length_drop, List.length_take]; rfl)) ?_
  refine (stratumref07_Facts.calls k (fun k_ => some k_ = (.slice none 0 0 : Value).ownBlock) (.slice none 0 0) ([] : List Int) _ _ l0 t210 w _ ?side1 ?side2 ?side3 ?side4 A3.out).mono ?_
  (case side1 => repeat (first | (with_reducible first | exact HB.out | apply iF | apply iG | apply iH) | exact HB.out))
  (case side2 => exact Kd.R_nil _ _ _ _ _)
  (case side3 => exact Kd.C_kept_came qC HR0.out hb_ (fun k_ hs_ => (fun e_ => by simp [Value.ownBlock] at e_) hs_))
  (case side4 => exact HC0.out)
  rintro e w6 ⟨v211, rfl, ho0, hb, hkp⟩
  refine ⟨_, rfl, ?_⟩
  have n0_ := iD.mk (Kd.R_mono (ok' := fun k_ => True) ho0 (fun k_ hk_ => trivial))
  have n1_ := iD.mk (hb)
  clear HB
  have HO212 := n0_
  have HB := n1_
  clear n0_ n1_
  (try clear hb)
  (try clear hkp)
  (try clear ho0)
  refine hK.out _ _ trivial (fun hHeld => ?_)
  clear hK K
  refine lI (a' := ?_) ?_ ?_
  rotate_left
  · show Act.put _ (some 6) _ = _
    simp only [Act.put, List.setIfInBounds_toArray, List.set_cons_zero, List.set_cons_succ, iY, jE]
    rfl
  refine WJ (σ := Value) 2 #[true, true, true, true, true, true, false, false] (fun s_ => [(7, .string (strOfNums t210)), (9, s_), (10, .string (strOfNums t213))]) (fun s_ w' => (Kd.R (Kd.int .u8) 5 w' w.heap.size (fun k_ => some k_ ≠ (s_ : Value).ownBlock) v211 t210) ∧ (Kd.R (Kd.int .u8) 5 w' w.heap.size (fun k_ => some k_ ≠ (v211 : Value).ownBlock) s_ t213) ∧ (Below w.heap.size w w')) ?_ ?_
  rotate_left
  · intro hCont
    refine two_ (i := 2) (j := 4) (Ni := some 7) (Nj := some 9) #[true, true, true, true, false, false, false, false] #[true, true, false, true, true, false, false, false] rfl rfl rfl rfl (MR HT_.out (by kernel_rfl)) (by decide) (by decide) (fun K hK => ?_) (fun K hK => ?_)
    · skip
      have hcv7 := kM (P := Tryd.prog) Tryd.underlying33 Tryd.underlying5 Tryd.underlying9 (Kd.own_of_R HO212.out)
      refine kK (w1 := ?_) (v := ?_) (by rfl) rfl ?_ ?_
      rotate_left 2
      · go_simp
        constructor
        · rfl
        · rfl
      clear hcv7
      refine hK.out _ _ trivial (fun hHeld => ?_)
      clear hK K
      refine lI (a' := ?_) ?_ ?_
      rotate_left
      · show Act.put _ (some 7) _ = _
        simp only [Act.put, List.setIfInBounds_toArray, List.set_cons_zero, List.set_cons_succ, iY, jE]
        rfl
      refine one_ (i := 4) (N := some 9) #[true, true, true, true, true, false, false, false] rfl rfl (lJ HT_.out (by kernel_rfl)) (by decide) (fun K hK => ?_)
      refine uN Tryd.func59 (by kernel_rfl) rfl #[.slice none 0 0, .slice A1 l1.length c1] (by rfl) rfl rfl (by (try simp only [List.map_toArray, List.map_cons, List.map_nil]); first | done | rfl | (simp only [List.length_drop, List.length_take]; rfl)) ?_
      refine (stratumref07_Facts.calls k (fun k_ => some k_ = (.slice none 0 0 : Value).ownBlock) (.slice none 0 0) ([] : List Int) _ _ l1 t213 w _ ?side1 ?side2 ?side3 ?side4 A4.out).mono ?_
      (case side1 => repeat (first | (with_reducible first | exact HB.out | apply iF | apply iG | apply iH) | exact HB.out))
      (case side2 => exact Kd.R_nil _ _ _ _ _)
      (case side3 => exact Kd.C_kept_came qC HR1.out hb_ (fun k_ hs_ => (fun e_ => by simp [Value.ownBlock] at e_) hs_))
      (case side4 => exact HC1.out)
      rintro e w8 ⟨v214, rfl, ho0, hb, hkp⟩
      refine ⟨_, rfl, ?_⟩
      have n0_ := iD.mk (Kd.R_mono (ok' := fun k_ => some k_ ≠ (v214 : Value).ownBlock) (Kd.R_keptB (HO212.out) hkp (fun k_ hk_ hs_ => (fun e_ => by simp [Value.ownBlock] at e_) hs_)) (fun k_ hk_ => fun e_ => Or.elim (ho0.1 k_ e_.symm) (fun hs_ => hk_.2.1 hs_) (fun hn_ => Nat.not_le.2 hk_.2.2 hn_)))
      have n1_ := iD.mk (Kd.R_mono (ok' := fun k_ => some k_ ≠ (v211 : Value).ownBlock) ho0 (fun k_ hk_ => Or.elim hk_ (fun hs_ => absurd hs_ (by simp [Value.ownBlock])) (fun hn_ => (Kd.fresh' (Kd.R_lt (by (with_reducible repeat (first | apply Kd.R_alloc | apply Kd.R_drewN | apply Kd.R_drew)); exact HO212.out)) k_ hn_))))
      have n2_ := iD.mk (hb)
      clear HO212
      clear HB
      have HO212 := n0_
      have HO215 := n1_
      have HB := n2_
      clear n0_ n1_ n2_
      (try clear hb)
      (try clear hkp)
      (try clear ho0)
      refine hK.out _ _ trivial (fun hHeld => ?_)
      clear hK K
      refine lI (a' := ?_) ?_ ?_
      rotate_left
      · show Act.put _ (some 9) _ = _
        simp only [Act.put, List.setIfInBounds_toArray, List.set_cons_zero, List.set_cons_succ, iY, jE]
        rfl
      refine one_ (i := 5) (N := some 10) #[true, true, true, true, true, true, false, false] rfl rfl (lJ HT_.out (by kernel_rfl)) (by decide) (fun K hK => ?_)
      have hcv9 := kM (P := Tryd.prog) Tryd.underlying33 Tryd.underlying5 Tryd.underlying9 (Kd.own_of_R HO215.out)
      refine kK (w1 := ?_) (v := ?_) (by rfl) rfl ?_ ?_
      rotate_left 2
      · go_simp
        constructor
        · rfl
        · rfl
      clear hcv9
      refine hK.out _ _ trivial (fun hHeld => ?_)
      clear hK K
      refine lI (a' := ?_) ?_ ?_
      rotate_left
      · show Act.put _ (some 10) _ = _
        simp only [Act.put, List.setIfInBounds_toArray, List.set_cons_zero, List.set_cons_succ, iY, jE]
        rfl
      exact lI (by simp only [pW, Act.put, List.setIfInBounds_toArray, List.set_cons_zero, List.set_cons_succ]) (hCont (v214) _ ⟨(by (with_reducible repeat (first | apply Kd.R_alloc | apply Kd.R_drewN | apply Kd.R_drew)); exact HO212.out), (by (with_reducible repeat (first | apply Kd.R_alloc | apply Kd.R_drewN | apply Kd.R_drew)); exact HO215.out), hb_⟩)
    · skip
      refine uN Tryd.func59 (by kernel_rfl) rfl #[.slice none 0 0, .slice A1 l1.length c1] (by rfl) rfl rfl (by (try simp only [List.map_toArray, List.map_cons, List.map_nil]); first | done | rfl | (simp only [List.length_drop, List.length_take]; rfl)) ?_
      refine (stratumref07_Facts.calls k (fun k_ => some k_ = (.slice none 0 0 : Value).ownBlock) (.slice none 0 0) ([] : List Int) _ _ l1 t213 w _ ?side1 ?side2 ?side3 ?side4 A4.out).mono ?_
      (case side1 => repeat (first | (with_reducible first | exact HB.out | apply iF | apply iG | apply iH) | exact HB.out))
      (case side2 => exact Kd.R_nil _ _ _ _ _)
      (case side3 => exact Kd.C_kept_came qC HR1.out hb_ (fun k_ hs_ => (fun e_ => by simp [Value.ownBlock] at e_) hs_))
      (case side4 => exact HC1.out)
      rintro e w7 ⟨v214, rfl, ho0, hb, hkp⟩
      refine ⟨_, rfl, ?_⟩
      have n0_ := iD.mk (Kd.R_mono (ok' := fun k_ => some k_ ≠ (v214 : Value).ownBlock) (Kd.R_keptB (HO212.out) hkp (fun k_ hk_ hs_ => (fun e_ => by simp [Value.ownBlock] at e_) hs_)) (fun k_ hk_ => fun e_ => Or.elim (ho0.1 k_ e_.symm) (fun hs_ => hk_.2.1 hs_) (fun hn_ => Nat.not_le.2 hk_.2.2 hn_)))
      have n1_ := iD.mk (Kd.R_mono (ok' := fun k_ => some k_ ≠ (v211 : Value).ownBlock) ho0 (fun k_ hk_ => Or.elim hk_ (fun hs_ => absurd hs_ (by simp [Value.ownBlock])) (fun hn_ => (Kd.fresh' (Kd.R_lt (by (with_reducible repeat (first | apply Kd.R_alloc | apply Kd.R_drewN | apply Kd.R_drew)); exact HO212.out)) k_ hn_))))
      have n2_ := iD.mk (hb)
      clear HO212
      clear HB
      have HO212 := n0_
      have HO215 := n1_
      have HB := n2_
      clear n0_ n1_ n2_
      (try clear hb)
      (try clear hkp)
      (try clear ho0)
      refine hK.out _ _ trivial (fun hHeld => ?_)
      clear hK K
      refine lI (a' := ?_) ?_ ?_
      rotate_left
      · show Act.put _ (some 9) _ = _
        simp only [Act.put, List.setIfInBounds_toArray, List.set_cons_zero, List.set_cons_succ, iY, jE]
        rfl
      refine two_ (i := 2) (j := 5) (Ni := some 7) (Nj := some 10) #[true, true, true, true, true, false, false, false] #[true, true, false, true, true, true, false, false] rfl rfl rfl rfl (MR HT_.out (by kernel_rfl)) (by decide) (by decide) (fun K hK => ?_) (fun K hK => ?_)
      · skip
        have hcv8 := kM (P := Tryd.prog) Tryd.underlying33 Tryd.underlying5 Tryd.underlying9 (Kd.own_of_R HO212.out)
        refine kK (w1 := ?_) (v := ?_) (by rfl) rfl ?_ ?_
        rotate_left 2
        · go_simp
          constructor
          · rfl
          · rfl
        clear hcv8
        refine hK.out _ _ trivial (fun hHeld => ?_)
        clear hK K
        refine lI (a' := ?_) ?_ ?_
        rotate_left
        · show Act.put _ (some 7) _ = _
          simp only [Act.put, List.setIfInBounds_toArray, List.set_cons_zero, List.set_cons_succ, iY, jE]
          rfl
        refine one_ (i := 5) (N := some 10) #[true, true, true, true, true, true, false, false] rfl rfl (lJ HT_.out (by kernel_rfl)) (by decide) (fun K hK => ?_)
        have hcv9 := kM (P := Tryd.prog) Tryd.underlying33 Tryd.underlying5 Tryd.underlying9 (Kd.own_of_R HO215.out)
        refine kK (w1 := ?_) (v := ?_) (by rfl) rfl ?_ ?_
        rotate_left 2
        · go_simp
          constructor
          · rfl
          · rfl
        clear hcv9
        refine hK.out _ _ trivial (fun hHeld => ?_)
        clear hK K
        refine lI (a' := ?_) ?_ ?_
        rotate_left
        · show Act.put _ (some 10) _ = _
          simp only [Act.put, List.setIfInBounds_toArray, List.set_cons_zero, List.set_cons_succ, iY, jE]
          rfl
        exact lI (by simp only [pW, Act.put, List.setIfInBounds_toArray, List.set_cons_zero, List.set_cons_succ]) (hCont (v214) _ ⟨(by (with_reducible repeat (first | apply Kd.R_alloc | apply Kd.R_drewN | apply Kd.R_drew)); exact HO212.out), (by (with_reducible repeat (first | apply Kd.R_alloc | apply Kd.R_drewN | apply Kd.R_drew)); exact HO215.out), hb_⟩)
      · skip
        have hcv8 := kM (P := Tryd.prog) Tryd.underlying33 Tryd.underlying5 Tryd.underlying9 (Kd.own_of_R HO215.out)
        refine kK (w1 := ?_) (v := ?_) (by rfl) rfl ?_ ?_
        rotate_left 2
        · go_simp
          constructor
          · rfl
          · rfl
        clear hcv8
        refine hK.out _ _ trivial (fun hHeld => ?_)
        clear hK K
        refine lI (a' := ?_) ?_ ?_
        rotate_left
        · show Act.put _ (some 10) _ = _
          simp only [Act.put, List.setIfInBounds_toArray, List.set_cons_zero, List.set_cons_succ, iY, jE]
          rfl
        refine one_ (i := 2) (N := some 7) #[true, true, true, true, true, true, false, false] rfl rfl (lJ HT_.out (by kernel_rfl)) (by decide) (fun K hK => ?_)
        have hcv9 := kM (P := Tryd.prog) Tryd.underlying33 Tryd.underlying5 Tryd.underlying9 (Kd.own_of_R HO212.out)
        refine kK (w1 := ?_) (v := ?_) (by rfl) rfl ?_ ?_
        rotate_left 2
        · go_simp
          constructor
          · rfl
          · rfl
        clear hcv9
        refine hK.out _ _ trivial (fun hHeld => ?_)
        clear hK K
        refine lI (a' := ?_) ?_ ?_
        rotate_left
        · show Act.put _ (some 7) _ = _
          simp only [Act.put, List.setIfInBounds_toArray, List.set_cons_zero, List.set_cons_succ, iY, jE]
          rfl
        exact lI (by simp only [pW, Act.put, List.setIfInBounds_toArray, List.set_cons_zero, List.set_cons_succ]) (hCont (v214) _ ⟨(by (with_reducible repeat (first | apply Kd.R_alloc | apply Kd.R_drewN | apply Kd.R_drew)); exact HO212.out), (by (with_reducible repeat (first | apply Kd.R_alloc | apply Kd.R_drewN | apply Kd.R_drew)); exact HO215.out), hb_⟩)
  rintro v214 w10 ⟨h0_, h1_, h2_⟩
  have n0_ : iD (Kd.R (Kd.int .u8) 5 w10 w.heap.size (fun k_ => some k_ ≠ (v214 : Value).ownBlock) v211 t210) := ⟨h0_⟩
  have n1_ : iD (Kd.R (Kd.int .u8) 5 w10 w.heap.size (fun k_ => some k_ ≠ (v211 : Value).ownBlock) v214 t213) := ⟨h1_⟩
  have n2_ : iD (Below w.heap.size w w10) := ⟨h2_⟩
  clear HB
  clear h0_ h1_ h2_
  have HO212 := n0_
  have HO215 := n1_
  have HB := n2_
  clear n0_ n1_ n2_
  have hHeld := trivial
  refine lI (a' := ?_) ?_ ?_
  rotate_left
  · simp only [pW, Act.put, List.setIfInBounds_toArray, List.set_cons_zero, List.set_cons_succ]
    rfl
  refine jM (i := 6) (N := some 11) (v := ?_) (a' := ?_) #[true, true, true, true, true, true, true, false] rfl rfl (jD HT_.out (by kernel_rfl)) (fun _ _ _ h => h) (Or.inl ⟨by rfl, ?_⟩) ?_ ?_
  rotate_left
  · intro w'
    go_simp
    with_reducible rfl
  rotate_left
  · simp only [Act.put, List.setIfInBounds_toArray, List.set_cons_zero, List.set_cons_succ, iY, jE]
    rfl
  refine jM (i := 7) (N := some 4) (v := ?_) (a' := ?_) #[true, true, true, true, true, true, true, true] rfl rfl (jD HT_.out (by kernel_rfl)) (fun _ _ _ h => h) (Or.inl ⟨by rfl, ?_⟩) ?_ ?_
  rotate_left
  · intro w'
    go_simp
    with_reducible rfl
  rotate_left
  · simp only [Act.put, List.setIfInBounds_toArray, List.set_cons_zero, List.set_cons_succ, iY, jE]
    rfl
  refine I5 (oZ HT_.out (by kernel_rfl)) ?_
  try go_wp2
  go_ret
  exact ⟨by first | rfl | (simp [iQ, iR] <;> rfl) | (simp [*, iQ, iR] <;> rfl), hb_⟩
end Go.Proofs.YtgfkgppomaapiaaDoor.K
end

section
namespace Go.Proofs.YtgfkgppomaapiaaDoor.K
open Go.RowKit Go.Proofs.YtgfkgppomaapiaaDoorW.PrintWords Go.Proofs.YtgfkgppomaapiaaDoorW.PrintLast Go.Proofs.YtgfkgppomaapiaaDoorW.PrintMore
attribute [local go_sem] kC kN
theorem WZ (d : Nat) (w : World) (x0 y0 : Int) (x1 y1 : Int) :
    (Op.equalIn (d + 2) 98 (.agg #[.int .i64 x0, .int .i64 x1]) (.agg #[.int .i64 y0, .int .i64 y1])).run Tryd.prog w = .ok (x0 == y0 && (x1 == y1)) w := by
  refine WG Tryd.underlying98 (by kernel_rfl) ?_
  refine TV (by rfl) (by go_simp; rfl) (by go_simp; rfl) (by go_simp) ?_
  exact UH (by rfl) (by go_simp; rfl) (by go_simp; rfl) (by go_simp)
end Go.Proofs.YtgfkgppomaapiaaDoor.K
end

section
namespace Go.Proofs.YtgfkgppomaapiaaDoor.K
open Go.RowKit Go.Proofs.YtgfkgppomaapiaaDoorW.PrintWords Go.Proofs.YtgfkgppomaapiaaDoorW.PrintLast Go.Proofs.YtgfkgppomaapiaaDoorW.PrintMore
attribute [local go_sem] kC kN
attribute [local go_sem high] WZ
mutual
def stratumref07_SameMap.j0 : Nat → Bool → Int → List (S98) → Int → List (S98) → Option (Bool)
  | 0, _, _, _, _, _ => none
  | k + 1, x19, x217000, x217001, x218000, x218001 => if x19 = true then (some false) else (stratumref07_SameMap.l0 k 0 x217000 x217001 x218000 x218001)
def stratumref07_SameMap.l0 : Nat → Int → Int → List (S98) → Int → List (S98) → Option (Bool)
  | 0, _, _, _, _, _ => none
  | k + 1, x5, x217000, x217001, x218000, x218001 => if x5 < (x217001.length : Int) then (if 0 ≤ x5 then (if x5 < (x218001.length : Int) then (if (!(((jU x217001 x5).f0) == ((jU x218001 x5).f0)) || (!(((jU x217001 x5).f1) == ((jU x218001 x5).f1)))) = true then (some false) else (stratumref07_SameMap.l0 k (wrap64 (x5 + 1)) x217000 x217001 x218000 x218001)) else (none)) else (none)) else (some true)
end
def stratumref07_SameMap.f (k : Nat) (a0_0 : Int) (l0_1 : List (S98)) (a1_0 : Int) (l1_1 : List (S98)) : Option (Bool) := if a0_0 = a1_0 then (stratumref07_SameMap.j0 k ((l0_1.length : Int) != (l1_1.length : Int)) a0_0 l0_1 a1_0 l1_1) else (stratumref07_SameMap.j0 k true a0_0 l0_1 a1_0 l1_1)
set_option maxHeartbeats 8000000 in
set_option maxRecDepth 100000 in
theorem stratumref07_SameMap.calls (k : Nat) (a0_0 : Int) (A0_1 : Option Addr) (c0_1 : Nat) (l0_1 : List (S98)) (a1_0 : Int) (A1_1 : Option Addr) (c1_1 : Nat) (l1_1 : List (S98)) (r : Bool) (w : World) (hr0_1 : Kd.C k98 w A0_1 l0_1.length l0_1) (hc0_1 : l0_1.length ≤ c0_1) (hr1_1 : Kd.C k98 w A1_1 l1_1.length l1_1) (hc1_1 : l1_1.length ≤ c1_1) (h : stratumref07_SameMap.f k a0_0 l0_1 a1_0 l1_1 = some r) :
    Calls Tryd.prog 77 #[.agg #[.int .u32 a0_0, .slice A0_1 l0_1.length c0_1], .agg #[.int .u32 a1_0, .slice A1_1 l1_1.length c1_1]] w fun e w' => e = .returned (.bool r) ∧ Below w.heap.size w w' := by
  have hu27 := Tryd.underlying27
  have hu98 := Tryd.underlying98
  have HR0_1 := iD.mk hr0_1
  have HC0_1 := iD.mk hc0_1
  clear hr0_1 hc0_1
  have HR1_1 := iD.mk hr1_1
  have HC1_1 := iD.mk hc1_1
  clear hr1_1 hc1_1
  have HB := iD.mk (Below.refl w.heap.size w)
  have H : (if a0_0 = a1_0 then (stratumref07_SameMap.j0 k ((l0_1.length : Int) != (l1_1.length : Int)) a0_0 l0_1 a1_0 l1_1) else (stratumref07_SameMap.j0 k true a0_0 l0_1 a1_0 l1_1)) = some r := h
  clear h
  have HC3 := iD.mk H
  clear H
  go_enter Tryd.func77, Tryd.ntmps77
  go_upto_region 1 with (first | ((with_reducible refine jS (N := 2) rfl ?_); (try (refine kE (by rfl) ?_; dsimp only)); refine jO ?hg (N := 2) ?hd (cs := #[.int .u32 a0_0, .slice A0_1 l0_1.length c0_1]) (t := 27) ?hr ?_; (case hd => rfl); (case hg => rfl); (case hr => first | (go_simp; done) | (go_simp; rfl)); intro gb216 hg w4 hbox hb; have n0_ := iD.mk (iL hb_ hb); have n1_ := iD.mk (hbox); have n2_ := iD.mk ((by rw [hg]; exact (iT hb_) : w.heap.size ≤ gb216)); have n3_ := iD.mk ((by rw [hg]; exact (iT hb_) : w.heap.size ≤ gb216)); clear HB; have HB := n0_; have BK216 := n1_; have GW216 := n2_; have GE216 := n3_; clear n0_ n1_ n2_ n3_; clear hb hbox hg) | ((with_reducible refine jS (N := 3) rfl ?_); (try (refine kE (by rfl) ?_; dsimp only)); refine jO ?hg (N := 3) ?hd (cs := #[.int .u32 a1_0, .slice A1_1 l1_1.length c1_1]) (t := 27) ?hr ?_; (case hd => rfl); (case hg => rfl); (case hr => first | (go_simp; done) | (go_simp; rfl)); intro gb217 hg w5 hbox hb; have n0_ := iD.mk (jJ (g := gb216) (o := .cells #[.int .u32 a0_0, .slice A0_1 l0_1.length c0_1] 27 (0, 0)) (bk_ BK216.out) hb); have n1_ := iD.mk (iL (by repeat (first | (with_reducible first | exact HB.out | apply iF | apply iG | apply iH | refine iI ?_ GE216.out) | exact HB.out)) hb); have n2_ := iD.mk (hbox); have n3_ := iD.mk ((by rw [hg]; exact (iT (by repeat (first | (with_reducible first | exact HB.out | apply iF | apply iG | apply iH | refine iI ?_ GE216.out) | exact HB.out))) : w.heap.size ≤ gb217)); have n4_ := iD.mk ((by rw [hg]; exact (iT (by repeat (first | (with_reducible first | exact HB.out | apply iF | apply iG | apply iH | refine iI ?_ GE216.out) | exact HB.out))) : w.heap.size ≤ gb217)); have n5_ := iD.mk ((by rw [hg]; exact Nat.ne_of_lt (jQ (g := gb216) (o := .cells #[.int .u32 a0_0, .slice A0_1 l0_1.length c0_1] 27 (0, 0)) (bk_ BK216.out)) : gb216 ≠ gb217)); have n6_ := iD.mk ((by rw [hg]; exact Nat.ne_of_gt (jQ (g := gb216) (o := .cells #[.int .u32 a0_0, .slice A0_1 l0_1.length c0_1] 27 (0, 0)) (bk_ BK216.out)) : gb217 ≠ gb216)); clear BK216; clear HB; have BK216 := n0_; have HB := n1_; have BK217 := n2_; have GW217 := n3_; have GE217 := n4_; have NB216_217 := n5_; have NB217_216 := n6_; clear n0_ n1_ n2_ n3_ n4_ n5_ n6_; clear hb hbox hg))
  repeat (go_quiet (first | ((with_reducible refine jS (N := 2) rfl ?_); (try (refine kE (by rfl) ?_; dsimp only)); refine jO ?hg (N := 2) ?hd (cs := #[.int .u32 a0_0, .slice A0_1 l0_1.length c0_1]) (t := 27) ?hr ?_; (case hd => rfl); (case hg => rfl); (case hr => first | (go_simp; done) | (go_simp; rfl)); intro gb216 hg w4 hbox hb; have n0_ := iD.mk (iL hb_ hb); have n1_ := iD.mk (hbox); have n2_ := iD.mk ((by rw [hg]; exact (iT hb_) : w.heap.size ≤ gb216)); have n3_ := iD.mk ((by rw [hg]; exact (iT hb_) : w.heap.size ≤ gb216)); clear HB; have HB := n0_; have BK216 := n1_; have GW216 := n2_; have GE216 := n3_; clear n0_ n1_ n2_ n3_; clear hb hbox hg) | ((with_reducible refine jS (N := 3) rfl ?_); (try (refine kE (by rfl) ?_; dsimp only)); refine jO ?hg (N := 3) ?hd (cs := #[.int .u32 a1_0, .slice A1_1 l1_1.length c1_1]) (t := 27) ?hr ?_; (case hd => rfl); (case hg => rfl); (case hr => first | (go_simp; done) | (go_simp; rfl)); intro gb217 hg w5 hbox hb; have n0_ := iD.mk (jJ (g := gb216) (o := .cells #[.int .u32 a0_0, .slice A0_1 l0_1.length c0_1] 27 (0, 0)) (bk_ BK216.out) hb); have n1_ := iD.mk (iL (by repeat (first | (with_reducible first | exact HB.out | apply iF | apply iG | apply iH | refine iI ?_ GE216.out) | exact HB.out)) hb); have n2_ := iD.mk (hbox); have n3_ := iD.mk ((by rw [hg]; exact (iT (by repeat (first | (with_reducible first | exact HB.out | apply iF | apply iG | apply iH | refine iI ?_ GE216.out) | exact HB.out))) : w.heap.size ≤ gb217)); have n4_ := iD.mk ((by rw [hg]; exact (iT (by repeat (first | (with_reducible first | exact HB.out | apply iF | apply iG | apply iH | refine iI ?_ GE216.out) | exact HB.out))) : w.heap.size ≤ gb217)); have n5_ := iD.mk ((by rw [hg]; exact Nat.ne_of_lt (jQ (g := gb216) (o := .cells #[.int .u32 a0_0, .slice A0_1 l0_1.length c0_1] 27 (0, 0)) (bk_ BK216.out)) : gb216 ≠ gb217)); have n6_ := iD.mk ((by rw [hg]; exact Nat.ne_of_gt (jQ (g := gb216) (o := .cells #[.int .u32 a0_0, .slice A0_1 l0_1.length c0_1] 27 (0, 0)) (bk_ BK216.out)) : gb217 ≠ gb216)); clear BK216; clear HB; have BK216 := n0_; have HB := n1_; have BK217 := n2_; have GW217 := n3_; have GE217 := n4_; have NB216_217 := n5_; have NB217_216 := n6_; clear n0_ n1_ n2_ n3_ n4_ n5_ n6_; clear hb hbox hg)); go_upto_region 1 with (first | ((with_reducible refine jS (N := 2) rfl ?_); (try (refine kE (by rfl) ?_; dsimp only)); refine jO ?hg (N := 2) ?hd (cs := #[.int .u32 a0_0, .slice A0_1 l0_1.length c0_1]) (t := 27) ?hr ?_; (case hd => rfl); (case hg => rfl); (case hr => first | (go_simp; done) | (go_simp; rfl)); intro gb216 hg w4 hbox hb; have n0_ := iD.mk (iL hb_ hb); have n1_ := iD.mk (hbox); have n2_ := iD.mk ((by rw [hg]; exact (iT hb_) : w.heap.size ≤ gb216)); have n3_ := iD.mk ((by rw [hg]; exact (iT hb_) : w.heap.size ≤ gb216)); clear HB; have HB := n0_; have BK216 := n1_; have GW216 := n2_; have GE216 := n3_; clear n0_ n1_ n2_ n3_; clear hb hbox hg) | ((with_reducible refine jS (N := 3) rfl ?_); (try (refine kE (by rfl) ?_; dsimp only)); refine jO ?hg (N := 3) ?hd (cs := #[.int .u32 a1_0, .slice A1_1 l1_1.length c1_1]) (t := 27) ?hr ?_; (case hd => rfl); (case hg => rfl); (case hr => first | (go_simp; done) | (go_simp; rfl)); intro gb217 hg w5 hbox hb; have n0_ := iD.mk (jJ (g := gb216) (o := .cells #[.int .u32 a0_0, .slice A0_1 l0_1.length c0_1] 27 (0, 0)) (bk_ BK216.out) hb); have n1_ := iD.mk (iL (by repeat (first | (with_reducible first | exact HB.out | apply iF | apply iG | apply iH | refine iI ?_ GE216.out) | exact HB.out)) hb); have n2_ := iD.mk (hbox); have n3_ := iD.mk ((by rw [hg]; exact (iT (by repeat (first | (with_reducible first | exact HB.out | apply iF | apply iG | apply iH | refine iI ?_ GE216.out) | exact HB.out))) : w.heap.size ≤ gb217)); have n4_ := iD.mk ((by rw [hg]; exact (iT (by repeat (first | (with_reducible first | exact HB.out | apply iF | apply iG | apply iH | refine iI ?_ GE216.out) | exact HB.out))) : w.heap.size ≤ gb217)); have n5_ := iD.mk ((by rw [hg]; exact Nat.ne_of_lt (jQ (g := gb216) (o := .cells #[.int .u32 a0_0, .slice A0_1 l0_1.length c0_1] 27 (0, 0)) (bk_ BK216.out)) : gb216 ≠ gb217)); have n6_ := iD.mk ((by rw [hg]; exact Nat.ne_of_gt (jQ (g := gb216) (o := .cells #[.int .u32 a0_0, .slice A0_1 l0_1.length c0_1] 27 (0, 0)) (bk_ BK216.out)) : gb217 ≠ gb216)); clear BK216; clear HB; have BK216 := n0_; have HB := n1_; have BK217 := n2_; have GW217 := n3_; have GE217 := n4_; have NB216_217 := n5_; have NB217_216 := n6_; clear n0_ n1_ n2_ n3_ n4_ n5_ n6_; clear hb hbox hg)))
  (try simp only [Act.put, List.setIfInBounds_toArray, List.set_cons_zero, List.set_cons_succ])
  go_cut [19] (fun v19 wc => ∃ (kq : Nat) (x19_2 : Bool), v19 = .bool x19_2 ∧ iD (stratumref07_SameMap.j0 kq x19_2 a0_0 l0_1 a1_0 l1_1 = some r) ∧ iD (kq ≤ k) ∧ iD (wc.heap[gb216]? = some (.cells #[.int .u32 a0_0, (.slice A0_1 l0_1.length c0_1)] 27 (0, 0))) ∧ iD (wc.heap[gb217]? = some (.cells #[.int .u32 a1_0, (.slice A1_1 l1_1.length c1_1)] 27 (0, 0))) ∧ iD (Below w.heap.size w wc))
  case first =>
    have H := HC3.out
    clear HC3
    by_cases c6 : a0_0 = a1_0
    · rw [if_pos c6] at H
      have c6b0 : (a0_0 == a1_0) = true := beq_iff_eq.mpr c6
      have c6b1 : (a0_0 != a1_0) = false := bne_eq_false_iff_eq.mpr c6
      clear c6
      (first | rw [c6b0] | (simp only [iY, jE]; rw [c6b0]) | skip)
      have H' := iD.mk H
      clear H
      have hnb7 := NB216_217.out
      have hnc7 := NB217_216.out
      have hcz8_0 : w5.cell? ⟨gb216, 0, none⟩ = some (.int .u32 a0_0) := (iE BK216.out 0).trans rfl
      have hcz8_1 : w5.cell? ⟨gb216, 1, none⟩ = some (.slice A0_1 l0_1.length c0_1) := (iE BK216.out 1).trans rfl
      have hfz8_0 := iC BK216.out 0
      have hfz8_1 := iC BK216.out 1
      have hcz9_0 : w5.cell? ⟨gb217, 0, none⟩ = some (.int .u32 a1_0) := (iE BK217.out 0).trans rfl
      have hcz9_1 : w5.cell? ⟨gb217, 1, none⟩ = some (.slice A1_1 l1_1.length c1_1) := (iE BK217.out 1).trans rfl
      have hfz9_0 := iC BK217.out 0
      have hfz9_1 := iC BK217.out 1
      go_wp2
      repeat (go_quiet (fail); try go_wp2)
      go_meet
      case rel => exact ⟨_, (((l0_1.length : Int) != (l1_1.length : Int))), (by first | rfl | (simp; done) | (simp [*]; done)), H', ⟨by first | omega | exact Nat.le_refl _⟩, ⟨bk_ BK216.out⟩, ⟨bk_ BK217.out⟩, ⟨by repeat (first | (with_reducible first | exact HB.out | apply iF | apply iG | apply iH | refine iI ?_ GE216.out | refine iI ?_ GE217.out) | exact HB.out)⟩⟩
    · rw [if_neg c6] at H
      have c6b0 : (a0_0 == a1_0) = false := beq_eq_false_iff_ne.mpr c6
      have c6b1 : (a0_0 != a1_0) = true := bne_iff_ne.mpr c6
      (first | rw [c6b0] | (simp only [iY, jE]; rw [c6b0]) | skip)
      have H' := iD.mk H
      clear H
      have hnb10 := NB216_217.out
      have hnc10 := NB217_216.out
      have hcz11_0 : w5.cell? ⟨gb216, 0, none⟩ = some (.int .u32 a0_0) := (iE BK216.out 0).trans rfl
      have hcz11_1 : w5.cell? ⟨gb216, 1, none⟩ = some (.slice A0_1 l0_1.length c0_1) := (iE BK216.out 1).trans rfl
      have hfz11_0 := iC BK216.out 0
      have hfz11_1 := iC BK216.out 1
      have hcz12_0 : w5.cell? ⟨gb217, 0, none⟩ = some (.int .u32 a1_0) := (iE BK217.out 0).trans rfl
      have hcz12_1 : w5.cell? ⟨gb217, 1, none⟩ = some (.slice A1_1 l1_1.length c1_1) := (iE BK217.out 1).trans rfl
      have hfz12_0 := iC BK217.out 0
      have hfz12_1 := iC BK217.out 1
      go_wp2
      repeat (go_quiet (fail); try go_wp2)
      go_meet
      case rel => exact ⟨_, (true), (by first | rfl | (simp; done) | (simp [*]; done)), H', ⟨by first | omega | exact Nat.le_refl _⟩, ⟨bk_ BK216.out⟩, ⟨bk_ BK217.out⟩, ⟨by repeat (first | (with_reducible first | exact HB.out | apply iF | apply iG | apply iH | refine iI ?_ GE216.out | refine iI ?_ GE217.out) | exact HB.out)⟩⟩
  case rest =>
    clear HC3
    try clear c1
    try clear p2
    try clear c6
    try clear c6b0
    try clear c6b1
    try clear c7
    try clear c10
    try clear hcz11_0
    try clear hcz11_1
    try clear hcz12_0
    try clear hcz12_1
    try clear hcz8_0
    try clear hcz8_1
    try clear hcz9_0
    try clear hcz9_1
    try clear hfz11_0
    try clear hfz11_1
    try clear hfz12_0
    try clear hfz12_1
    try clear hfz8_0
    try clear hfz8_1
    try clear hfz9_0
    try clear hfz9_1
    obtain ⟨kq, x19_2, rfl, HA, HJ2, BK216, BK217, HB⟩ := hcut
    cases kq with
    | zero => exact absurd HA.out (by simp [stratumref07_SameMap.j0])
    | succ kj2 =>
      have H := HA.out
      clear HA
      simp only [stratumref07_SameMap.j0] at H
      by_cases c13 : x19_2 = true
      · subst c13
        have H1 : (some false) = some r := by rw [if_pos rfl] at H; exact H
        clear H
        have H := H1
        clear H1
        obtain rfl := Option.some.inj H
        go_wp2
        repeat (go_quiet (fail); try go_wp2)
        go_ret
        exact ⟨by first | rfl | (simp [iQ, iR] <;> rfl) | (simp [*, iQ, iR] <;> rfl), by repeat (first | (with_reducible first | exact HB.out | apply iF | apply iG | apply iH | refine iI ?_ GE216.out | refine iI ?_ GE217.out) | exact HB.out)⟩
      · replace c13 := Bool.eq_false_iff.mpr c13
        subst c13
        have H1 : (stratumref07_SameMap.l0 kj2 0 a0_0 l0_1 a1_0 l1_1) = some r := by rw [if_neg (show ¬ (false = true) by decide)] at H; exact H
        clear H
        have H := H1
        clear H1
        have H' := iD.mk H
        clear H
        go_wp2
        repeat (go_quiet (fail); try go_wp2)
        go_loopg [5] kj2 (fun kq v5 w' => ∃ (x5_2 : Int), v5 = .int .i64 x5_2 ∧ iD (stratumref07_SameMap.l0 kq x5_2 a0_0 l0_1 a1_0 l1_1 = some r) ∧ iD (kq ≤ kj2) ∧ iD (w'.heap[gb216]? = some (.cells #[.int .u32 a0_0, (.slice A0_1 l0_1.length c0_1)] 27 (0, 0))) ∧ iD (w'.heap[gb217]? = some (.cells #[.int .u32 a1_0, (.slice A1_1 l1_1.length c1_1)] 27 (0, 0))) ∧ iD (Below w.heap.size w w'))
        case atStart => exact ⟨(0), (by first | rfl | (simp; done) | (simp [*]; done)), H', ⟨Nat.le_refl _⟩, ⟨bk_ BK216.out⟩, ⟨bk_ BK217.out⟩, ⟨by repeat (first | (with_reducible first | exact HB.out | apply iF | apply iG | apply iH | refine iI ?_ GE216.out | refine iI ?_ GE217.out) | exact HB.out)⟩⟩
        case round =>
          clear H'
          try clear c1
          try clear p2
          try clear c6
          try clear c6b0
          try clear c6b1
          try clear c7
          try clear c10
          try clear c13
          try clear hcz11_0
          try clear hcz11_1
          try clear hcz12_0
          try clear hcz12_1
          try clear hcz8_0
          try clear hcz8_1
          try clear hcz9_0
          try clear hcz9_1
          try clear hfz11_0
          try clear hfz11_1
          try clear hfz12_0
          try clear hfz12_1
          try clear hfz8_0
          try clear hfz8_1
          try clear hfz9_0
          try clear hfz9_1
          try clear p2
          obtain ⟨x5_2, rfl, HA, HK2, BK216, BK217, HB⟩ := hrel
          cases gk with
          | zero => exact absurd HA.out (by simp [stratumref07_SameMap.l0])
          | succ k2 =>
            have H := HA.out
            clear HA
            simp only [stratumref07_SameMap.l0] at H
            by_cases c14 : x5_2 < (l0_1.length : Int)
            · rw [if_pos c14] at H
              have c14b0 : decide (x5_2 < (l0_1.length : Int)) = true := decide_eq_true c14
              clear c14
              by_cases c15 : 0 ≤ x5_2
              · rw [if_pos c15] at H
                have c15b0 : decide (0 ≤ x5_2) = true := decide_eq_true c15
                clear c15
                by_cases c16 : x5_2 < (l1_1.length : Int)
                · rw [if_pos c16] at H
                  have c16b0 : decide (x5_2 < (l1_1.length : Int)) = true := decide_eq_true c16
                  clear c16
                  by_cases c17 : (!(((jU l0_1 x5_2).f0) == ((jU l1_1 x5_2).f0)) || (!(((jU l0_1 x5_2).f1) == ((jU l1_1 x5_2).f1)))) = true
                  · rw [if_pos c17] at H
                    have c17b0 : (!(((jU l0_1 x5_2).f0) == ((jU l1_1 x5_2).f0)) || (!(((jU l0_1 x5_2).f1) == ((jU l1_1 x5_2).f1)))) = true := c17
                    clear c17
                    obtain rfl := Option.some.inj H
                    have hnb18 := NB216_217.out
                    have hnc18 := NB217_216.out
                    have hcz19_0 : wr.cell? ⟨gb216, 0, none⟩ = some (.int .u32 a0_0) := (iE BK216.out 0).trans rfl
                    have hcz19_1 : wr.cell? ⟨gb216, 1, none⟩ = some (.slice A0_1 l0_1.length c0_1) := (iE BK216.out 1).trans rfl
                    have hfz19_0 := iC BK216.out 0
                    have hfz19_1 := iC BK216.out 1
                    have p218 : 0 ≤ (x5_2 : Int) := of_decide_eq_true asm_
                    have q218 : x5_2 < (l0_1.length : Int) := of_decide_eq_true asm_
                    obtain ⟨ad218, e218, hx218_0, hx218_1⟩ := lX HR0_1.out x5_2 p218 q218
                    cases e218
                    replace hx218_0 := (HB.out.cell (World.block_lt_of_cell? w _ hx218_0)).trans hx218_0
                    replace hx218_1 := (HB.out.cell (World.block_lt_of_cell? w _ hx218_1)).trans hx218_1
                    replace p218 := eq_true p218
                    replace q218 := eq_true q218
                    have hcz20_0 : wr.cell? ⟨gb217, 0, none⟩ = some (.int .u32 a1_0) := (iE BK217.out 0).trans rfl
                    have hcz20_1 : wr.cell? ⟨gb217, 1, none⟩ = some (.slice A1_1 l1_1.length c1_1) := (iE BK217.out 1).trans rfl
                    have hfz20_0 := iC BK217.out 0
                    have hfz20_1 := iC BK217.out 1
                    have p219 : 0 ≤ (x5_2 : Int) := of_decide_eq_true asm_
                    have q219 : x5_2 < (l1_1.length : Int) := of_decide_eq_true asm_
                    obtain ⟨ad219, e219, hx219_0, hx219_1⟩ := lX HR1_1.out x5_2 p219 q219
                    cases e219
                    replace hx219_0 := (HB.out.cell (World.block_lt_of_cell? w _ hx219_0)).trans hx219_0
                    replace hx219_1 := (HB.out.cell (World.block_lt_of_cell? w _ hx219_1)).trans hx219_1
                    replace p219 := eq_true p219
                    replace q219 := eq_true q219
                    go_wp2
                    repeat (go_quiet (fail); try go_wp2)
                    go_ret
                    exact ⟨by first | rfl | (simp [iQ, iR] <;> rfl) | (simp [*, iQ, iR] <;> rfl), by repeat (first | (with_reducible first | exact HB.out | apply iF | apply iG | apply iH | refine iI ?_ GE216.out | refine iI ?_ GE217.out) | exact HB.out)⟩
                  · rw [if_neg c17] at H
                    have c17b0 : (!(((jU l0_1 x5_2).f0) == ((jU l1_1 x5_2).f0)) || (!(((jU l0_1 x5_2).f1) == ((jU l1_1 x5_2).f1)))) = false := by simpa using c17
                    clear c17
                    have H' := iD.mk H
                    clear H
                    have hnb21 := NB216_217.out
                    have hnc21 := NB217_216.out
                    have hcz22_0 : wr.cell? ⟨gb216, 0, none⟩ = some (.int .u32 a0_0) := (iE BK216.out 0).trans rfl
                    have hcz22_1 : wr.cell? ⟨gb216, 1, none⟩ = some (.slice A0_1 l0_1.length c0_1) := (iE BK216.out 1).trans rfl
                    have hfz22_0 := iC BK216.out 0
                    have hfz22_1 := iC BK216.out 1
                    have p218 : 0 ≤ (x5_2 : Int) := of_decide_eq_true asm_
                    have q218 : x5_2 < (l0_1.length : Int) := of_decide_eq_true asm_
                    obtain ⟨ad218, e218, hx218_0, hx218_1⟩ := lX HR0_1.out x5_2 p218 q218
                    cases e218
                    replace hx218_0 := (HB.out.cell (World.block_lt_of_cell? w _ hx218_0)).trans hx218_0
                    replace hx218_1 := (HB.out.cell (World.block_lt_of_cell? w _ hx218_1)).trans hx218_1
                    replace p218 := eq_true p218
                    replace q218 := eq_true q218
                    have hcz23_0 : wr.cell? ⟨gb217, 0, none⟩ = some (.int .u32 a1_0) := (iE BK217.out 0).trans rfl
                    have hcz23_1 : wr.cell? ⟨gb217, 1, none⟩ = some (.slice A1_1 l1_1.length c1_1) := (iE BK217.out 1).trans rfl
                    have hfz23_0 := iC BK217.out 0
                    have hfz23_1 := iC BK217.out 1
                    have p219 : 0 ≤ (x5_2 : Int) := of_decide_eq_true asm_
                    have q219 : x5_2 < (l1_1.length : Int) := of_decide_eq_true asm_
                    obtain ⟨ad219, e219, hx219_0, hx219_1⟩ := lX HR1_1.out x5_2 p219 q219
                    cases e219
                    replace hx219_0 := (HB.out.cell (World.block_lt_of_cell? w _ hx219_0)).trans hx219_0
                    replace hx219_1 := (HB.out.cell (World.block_lt_of_cell? w _ hx219_1)).trans hx219_1
                    replace p219 := eq_true p219
                    replace q219 := eq_true q219
                    go_wp2
                    repeat (go_quiet (fail); try go_wp2)
                    go_roundg k2
                    case measure => have := HJ2.out; have := HK2.out; omega
                    case rel => exact ⟨(wrap64 (x5_2 + 1)), (by first | rfl | (simp; done) | (simp [*]; done)), H', ⟨by have := HJ2.out; have := HK2.out; omega⟩, ⟨bk_ BK216.out⟩, ⟨bk_ BK217.out⟩, ⟨by repeat (first | (with_reducible first | exact HB.out | apply iF | apply iG | apply iH | refine iI ?_ GE216.out | refine iI ?_ GE217.out) | exact HB.out)⟩⟩
                · rw [if_neg c16] at H
                  exact absurd H (by simp)
              · rw [if_neg c15] at H
                exact absurd H (by simp)
            · rw [if_neg c14] at H
              have c14b0 : decide (x5_2 < (l0_1.length : Int)) = false := decide_eq_false c14
              clear c14
              obtain rfl := Option.some.inj H
              have hnb24 := NB216_217.out
              have hnc24 := NB217_216.out
              have hcz25_0 : wr.cell? ⟨gb216, 0, none⟩ = some (.int .u32 a0_0) := (iE BK216.out 0).trans rfl
              have hcz25_1 : wr.cell? ⟨gb216, 1, none⟩ = some (.slice A0_1 l0_1.length c0_1) := (iE BK216.out 1).trans rfl
              have hfz25_0 := iC BK216.out 0
              have hfz25_1 := iC BK216.out 1
              go_wp2
              repeat (go_quiet (fail); try go_wp2)
              go_ret
              exact ⟨by first | rfl | (simp [iQ, iR] <;> rfl) | (simp [*, iQ, iR] <;> rfl), by repeat (first | (with_reducible first | exact HB.out | apply iF | apply iG | apply iH | refine iI ?_ GE216.out | refine iI ?_ GE217.out) | exact HB.out)⟩
end Go.Proofs.YtgfkgppomaapiaaDoor.K
end

section
namespace Go.Proofs.YtgfkgppomaapiaaDoor.K
open Go.RowKit Go.Proofs.YtgfkgppomaapiaaDoorW.PrintWords Go.Proofs.YtgfkgppomaapiaaDoorW.PrintLast Go.Proofs.YtgfkgppomaapiaaDoorW.PrintMore
attribute [local go_sem] kC kN
def stratumref07_SameEntries.f (l0 : List (S86)) (l1 : List (S86)) : Option (Bool) := (stratumref07_Entries.f ([] : List Int) l0).bind fun t220 => ((stratumref07_Entries.f ([] : List Int) l1).bind fun t223 => (some ((strOfNums t220).toList == (strOfNums t223).toList)))
def stratumref07_SameEntries.T1 : Bool × List (List Nat × List Nat) := (true, [([], []), ([0], [0]), ([1], [1]), ([], []), ([3, 1], [3]), ([4], [4]), ([2, 5], [2, 5]), ([6, 4, 0, 1, 2, 3, 4, 5, 6], [6])])
def stratumref07_SameEntries.B1 : List Nat := [0, 1, 3, 0, 11, 27, 63, 127]
theorem stratumref07_SameEntries.tab1 : rtab .any (opsOf Tryd.f78 1) = stratumref07_SameEntries.T1 := by kernel_rfl
theorem stratumref07_SameEntries.bits1 : mF stratumref07_SameEntries.T1.2 stratumref07_SameEntries.B1 = true := by kernel_rfl
set_option maxHeartbeats 8000000 in
set_option maxRecDepth 100000 in
theorem stratumref07_SameEntries.calls (A0 : Option Addr) (c0 : Nat) (l0 : List (S86)) (A1 : Option Addr) (c1 : Nat) (l1 : List (S86)) (r : Bool) (w : World) (hr0 : Kd.C k86 w A0 l0.length l0) (hc0 : l0.length ≤ c0) (hr1 : Kd.C k86 w A1 l1.length l1) (hc1 : l1.length ≤ c1) (h : stratumref07_SameEntries.f l0 l1 = some r) :
    Calls Tryd.prog 78 #[.slice A0 l0.length c0, .slice A1 l1.length c1] w fun e w' => e = .returned (.bool r) ∧ Below w.heap.size w w' := by
  have HR0 := iD.mk hr0
  have HC0 := iD.mk hc0
  clear hr0 hc0
  have HR1 := iD.mk hr1
  have HC1 := iD.mk hc1
  clear hr1 hc1
  have HB := iD.mk (Below.refl w.heap.size w)
  have H : ((stratumref07_Entries.f ([] : List Int) l0).bind fun t220 => ((stratumref07_Entries.f ([] : List Int) l1).bind fun t223 => (some ((strOfNums t220).toList == (strOfNums t223).toList)))) = some r := h
  clear h
  replace H := Option.bind_eq_some_iff.mp H
  obtain ⟨t220, A30, H⟩ := H
  replace H : ((stratumref07_Entries.f ([] : List Int) l1).bind fun t223 => (some ((strOfNums t220).toList == (strOfNums t223).toList))) = some r := H
  have A3 := iD.mk A30
  clear A30
  replace H := Option.bind_eq_some_iff.mp H
  obtain ⟨t223, A40, H⟩ := H
  replace H : (some ((strOfNums t220).toList == (strOfNums t223).toList)) = some r := H
  have A4 := iD.mk A40
  clear A40
  obtain rfl := Option.some.inj H
  go_enter Tryd.func78, Tryd.ntmps78
  try go_wp2
  have n0_ := iD.mk (iH HB.out)
  clear HB
  have HB := n0_
  clear n0_
  refine qN (n := 8) (S := fun w' => True) (ds := []) #[false, false, false, false, false, false, false, false] (by kernel_rfl) rfl rfl trivial (fun hHeld => ?_); refine mO stratumref07_SameEntries.tab1 stratumref07_SameEntries.bits1 (fun HT_ HW_ => ?_)
  generalize w.drew = w5 at HB hHeld ⊢
  refine jM (i := 0) (N := some 5) (v := ?_) (a' := ?_) #[true, false, false, false, false, false, false, false] rfl rfl (jD HT_.out (by kernel_rfl)) (fun _ _ _ h => h) (Or.inl ⟨by rfl, ?_⟩) ?_ ?_
  rotate_left
  · intro w'
    go_simp
    with_reducible rfl
  rotate_left
  · simp only [Act.put, List.setIfInBounds_toArray, List.set_cons_zero, List.set_cons_succ, iY, jE]
    rfl
  refine jM (i := 3) (N := some 8) (v := ?_) (a' := ?_) #[true, false, false, true, false, false, false, false] rfl rfl (jD HT_.out (by kernel_rfl)) (fun _ _ _ h => h) (Or.inl ⟨by rfl, ?_⟩) ?_ ?_
  rotate_left
  · intro w'
    go_simp
    with_reducible rfl
  rotate_left
  · simp only [Act.put, List.setIfInBounds_toArray, List.set_cons_zero, List.set_cons_succ, iY, jE]
    rfl
  refine one_ (i := 1) (N := some 6) #[true, true, false, true, false, false, false, false] rfl rfl (lJ HT_.out (by kernel_rfl)) (by decide) (fun K hK => ?_)
  refine uN Tryd.func60 (by kernel_rfl) rfl #[.slice none 0 0, .slice A0 l0.length c0] (by rfl) rfl rfl (by (try simp only [List.map_toArray, List.map_cons, List.map_nil]); first | done | rfl | (simp only [List.length_drop, List.length_take]; rfl)) ?_
  refine (stratumref07_Entries.calls0 _ _ l0 t220 _ ?side1 ?side2 ?side3 ?side4 A3.out).mono ?_
  (case side1 => exact Kd.C_nil _ _)
  (case side2 => exact Nat.le_refl _)
  (case side3 => repeat (first | exact (Kd.C_below HR0.out HB.out) | (with_reducible refine Kd.C_alloc ?_ _) | (with_reducible refine Kd.C_drewN ?_ _) | (with_reducible refine Kd.C_drew ?_)))
  (case side4 => exact HC0.out)
  rintro e w6 ⟨v221, rfl, ho0, hb⟩
  refine ⟨_, rfl, ?_⟩
  have n0_ := iD.mk (Kd.R_lower ho0 (iT hb_))
  have n1_ := iD.mk (iL hb_ hb)
  clear HB
  have HO222 := n0_
  have HB := n1_
  clear n0_ n1_
  (try clear hb)
  (try clear hb2)
  (try clear hk)
  (try clear hi)
  (try clear ho0)
  refine hK.out _ _ trivial (fun hHeld => ?_)
  clear hK K
  refine lI (a' := ?_) ?_ ?_
  rotate_left
  · show Act.put _ (some 6) _ = _
    simp only [Act.put, List.setIfInBounds_toArray, List.set_cons_zero, List.set_cons_succ, iY, jE]
    rfl
  refine WJ (σ := Value) 2 #[true, true, true, true, true, true, false, false] (fun s_ => [(7, .string (strOfNums t220)), (9, s_), (10, .string (strOfNums t223))]) (fun s_ w' => (Kd.R (Kd.int .u8) 5 w' w.heap.size (fun k_ => some k_ ≠ (s_ : Value).ownBlock) v221 t220) ∧ (Kd.R (Kd.int .u8) 5 w' w.heap.size (fun k_ => some k_ ≠ (v221 : Value).ownBlock) s_ t223) ∧ (Below w.heap.size w w')) ?_ ?_
  rotate_left
  · intro hCont
    refine two_ (i := 2) (j := 4) (Ni := some 7) (Nj := some 9) #[true, true, true, true, false, false, false, false] #[true, true, false, true, true, false, false, false] rfl rfl rfl rfl (MR HT_.out (by kernel_rfl)) (by decide) (by decide) (fun K hK => ?_) (fun K hK => ?_)
    · skip
      have hcv7 := kM (P := Tryd.prog) Tryd.underlying33 Tryd.underlying5 Tryd.underlying9 (Kd.own_of_R HO222.out)
      refine kK (w1 := ?_) (v := ?_) (by rfl) rfl ?_ ?_
      rotate_left 2
      · go_simp
        constructor
        · rfl
        · rfl
      clear hcv7
      refine hK.out _ _ trivial (fun hHeld => ?_)
      clear hK K
      refine lI (a' := ?_) ?_ ?_
      rotate_left
      · show Act.put _ (some 7) _ = _
        simp only [Act.put, List.setIfInBounds_toArray, List.set_cons_zero, List.set_cons_succ, iY, jE]
        rfl
      refine one_ (i := 4) (N := some 9) #[true, true, true, true, true, false, false, false] rfl rfl (lJ HT_.out (by kernel_rfl)) (by decide) (fun K hK => ?_)
      refine uN Tryd.func60 (by kernel_rfl) rfl #[.slice none 0 0, .slice A1 l1.length c1] (by rfl) rfl rfl (by (try simp only [List.map_toArray, List.map_cons, List.map_nil]); first | done | rfl | (simp only [List.length_drop, List.length_take]; rfl)) ?_
      refine (stratumref07_Entries.calls0 _ _ l1 t223 _ ?side1 ?side2 ?side3 ?side4 A4.out).mono ?_
      (case side1 => exact Kd.C_nil _ _)
      (case side2 => exact Nat.le_refl _)
      (case side3 => repeat (first | exact (Kd.C_below HR1.out HB.out) | (with_reducible refine Kd.C_alloc ?_ _) | (with_reducible refine Kd.C_drewN ?_ _) | (with_reducible refine Kd.C_drew ?_)))
      (case side4 => exact HC1.out)
      rintro e w8 ⟨v224, rfl, ho0, hb⟩
      refine ⟨_, rfl, ?_⟩
      have n0_ := iD.mk (Kd.R_elder' (by (with_reducible repeat (first | apply Kd.R_alloc | apply Kd.R_drewN | apply Kd.R_drew)); exact HO222.out) (Kd.R_base ho0) hb)
      have n1_ := iD.mk (Kd.R_lower (Kd.R_new' ho0 (Kd.R_lt (by (with_reducible repeat (first | apply Kd.R_alloc | apply Kd.R_drewN | apply Kd.R_drew)); exact HO222.out))) (iT hb_))
      have n2_ := iD.mk (iL hb_ hb)
      clear HO222
      clear HB
      have HO222 := n0_
      have HO225 := n1_
      have HB := n2_
      clear n0_ n1_ n2_
      (try clear hb)
      (try clear hb2)
      (try clear hk)
      (try clear hi)
      (try clear ho0)
      refine hK.out _ _ trivial (fun hHeld => ?_)
      clear hK K
      refine lI (a' := ?_) ?_ ?_
      rotate_left
      · show Act.put _ (some 9) _ = _
        simp only [Act.put, List.setIfInBounds_toArray, List.set_cons_zero, List.set_cons_succ, iY, jE]
        rfl
      refine one_ (i := 5) (N := some 10) #[true, true, true, true, true, true, false, false] rfl rfl (lJ HT_.out (by kernel_rfl)) (by decide) (fun K hK => ?_)
      have hcv9 := kM (P := Tryd.prog) Tryd.underlying33 Tryd.underlying5 Tryd.underlying9 (Kd.own_of_R HO225.out)
      refine kK (w1 := ?_) (v := ?_) (by rfl) rfl ?_ ?_
      rotate_left 2
      · go_simp
        constructor
        · rfl
        · rfl
      clear hcv9
      refine hK.out _ _ trivial (fun hHeld => ?_)
      clear hK K
      refine lI (a' := ?_) ?_ ?_
      rotate_left
      · show Act.put _ (some 10) _ = _
        simp only [Act.put, List.setIfInBounds_toArray, List.set_cons_zero, List.set_cons_succ, iY, jE]
        rfl
      exact lI (by simp only [pW, Act.put, List.setIfInBounds_toArray, List.set_cons_zero, List.set_cons_succ]) (hCont (v224) _ ⟨(by (with_reducible repeat (first | apply Kd.R_alloc | apply Kd.R_drewN | apply Kd.R_drew)); exact Kd.R_mono HO222.out (fun _ hk => hk.2)), (by (with_reducible repeat (first | apply Kd.R_alloc | apply Kd.R_drewN | apply Kd.R_drew)); exact Kd.R_mono HO225.out (fun _ hk => hk.2)), hb_⟩)
    · skip
      refine uN Tryd.func60 (by kernel_rfl) rfl #[.slice none 0 0, .slice A1 l1.length c1] (by rfl) rfl rfl (by (try simp only [List.map_toArray, List.map_cons, List.map_nil]); first | done | rfl | (simp only [List.length_drop, List.length_take]; rfl)) ?_
      refine (stratumref07_Entries.calls0 _ _ l1 t223 _ ?side1 ?side2 ?side3 ?side4 A4.out).mono ?_
      (case side1 => exact Kd.C_nil _ _)
      (case side2 => exact Nat.le_refl _)
      (case side3 => repeat (first | exact (Kd.C_below HR1.out HB.out) | (with_reducible refine Kd.C_alloc ?_ _) | (with_reducible refine Kd.C_drewN ?_ _) | (with_reducible refine Kd.C_drew ?_)))
      (case side4 => exact HC1.out)
      rintro e w7 ⟨v224, rfl, ho0, hb⟩
      refine ⟨_, rfl, ?_⟩
      have n0_ := iD.mk (Kd.R_elder' (by (with_reducible repeat (first | apply Kd.R_alloc | apply Kd.R_drewN | apply Kd.R_drew)); exact HO222.out) (Kd.R_base ho0) hb)
      have n1_ := iD.mk (Kd.R_lower (Kd.R_new' ho0 (Kd.R_lt (by (with_reducible repeat (first | apply Kd.R_alloc | apply Kd.R_drewN | apply Kd.R_drew)); exact HO222.out))) (iT hb_))
      have n2_ := iD.mk (iL hb_ hb)
      clear HO222
      clear HB
      have HO222 := n0_
      have HO225 := n1_
      have HB := n2_
      clear n0_ n1_ n2_
      (try clear hb)
      (try clear hb2)
      (try clear hk)
      (try clear hi)
      (try clear ho0)
      refine hK.out _ _ trivial (fun hHeld => ?_)
      clear hK K
      refine lI (a' := ?_) ?_ ?_
      rotate_left
      · show Act.put _ (some 9) _ = _
        simp only [Act.put, List.setIfInBounds_toArray, List.set_cons_zero, List.set_cons_succ, iY, jE]
        rfl
      refine two_ (i := 2) (j := 5) (Ni := some 7) (Nj := some 10) #[true, true, true, true, true, false, false, false] #[true, true, false, true, true, true, false, false] rfl rfl rfl rfl (MR HT_.out (by kernel_rfl)) (by decide) (by decide) (fun K hK => ?_) (fun K hK => ?_)
      · skip
        have hcv8 := kM (P := Tryd.prog) Tryd.underlying33 Tryd.underlying5 Tryd.underlying9 (Kd.own_of_R HO222.out)
        refine kK (w1 := ?_) (v := ?_) (by rfl) rfl ?_ ?_
        rotate_left 2
        · go_simp
          constructor
          · rfl
          · rfl
        clear hcv8
        refine hK.out _ _ trivial (fun hHeld => ?_)
        clear hK K
        refine lI (a' := ?_) ?_ ?_
        rotate_left
        · show Act.put _ (some 7) _ = _
          simp only [Act.put, List.setIfInBounds_toArray, List.set_cons_zero, List.set_cons_succ, iY, jE]
          rfl
        refine one_ (i := 5) (N := some 10) #[true, true, true, true, true, true, false, false] rfl rfl (lJ HT_.out (by kernel_rfl)) (by decide) (fun K hK => ?_)
        have hcv9 := kM (P := Tryd.prog) Tryd.underlying33 Tryd.underlying5 Tryd.underlying9 (Kd.own_of_R HO225.out)
        refine kK (w1 := ?_) (v := ?_) (by rfl) rfl ?_ ?_
        rotate_left 2
        · go_simp
          constructor
          · rfl
          · rfl
        clear hcv9
        refine hK.out _ _ trivial (fun hHeld => ?_)
        clear hK K
        refine lI (a' := ?_) ?_ ?_
        rotate_left
        · show Act.put _ (some 10) _ = _
          simp only [Act.put, List.setIfInBounds_toArray, List.set_cons_zero, List.set_cons_succ, iY, jE]
          rfl
        exact lI (by simp only [pW, Act.put, List.setIfInBounds_toArray, List.set_cons_zero, List.set_cons_succ]) (hCont (v224) _ ⟨(by (with_reducible repeat (first | apply Kd.R_alloc | apply Kd.R_drewN | apply Kd.R_drew)); exact Kd.R_mono HO222.out (fun _ hk => hk.2)), (by (with_reducible repeat (first | apply Kd.R_alloc | apply Kd.R_drewN | apply Kd.R_drew)); exact Kd.R_mono HO225.out (fun _ hk => hk.2)), hb_⟩)
      · skip
        have hcv8 := kM (P := Tryd.prog) Tryd.underlying33 Tryd.underlying5 Tryd.underlying9 (Kd.own_of_R HO225.out)
        refine kK (w1 := ?_) (v := ?_) (by rfl) rfl ?_ ?_
        rotate_left 2
        · go_simp
          constructor
          · rfl
          · rfl
        clear hcv8
        refine hK.out _ _ trivial (fun hHeld => ?_)
        clear hK K
        refine lI (a' := ?_) ?_ ?_
        rotate_left
        · show Act.put _ (some 10) _ = _
          simp only [Act.put, List.setIfInBounds_toArray, List.set_cons_zero, List.set_cons_succ, iY, jE]
          rfl
        refine one_ (i := 2) (N := some 7) #[true, true, true, true, true, true, false, false] rfl rfl (lJ HT_.out (by kernel_rfl)) (by decide) (fun K hK => ?_)
        have hcv9 := kM (P := Tryd.prog) Tryd.underlying33 Tryd.underlying5 Tryd.underlying9 (Kd.own_of_R HO222.out)
        refine kK (w1 := ?_) (v := ?_) (by rfl) rfl ?_ ?_
        rotate_left 2
        · go_simp
          constructor
          · rfl
          · rfl
        clear hcv9
        refine hK.out _ _ trivial (fun hHeld => ?_)
        clear hK K
        refine lI (a' := ?_) ?_ ?_
        rotate_left
        · show Act.put _ (some 7) _ = _
          simp only [Act.put, List.setIfInBounds_toArray, List.set_cons_zero, List.set_cons_succ, iY, jE]
          rfl
        exact lI (by simp only [pW, Act.put, List.setIfInBounds_toArray, List.set_cons_zero, List.set_cons_succ]) (hCont (v224) _ ⟨(by (with_reducible repeat (first | apply Kd.R_alloc | apply Kd.R_drewN | apply Kd.R_drew)); exact Kd.R_mono HO222.out (fun _ hk => hk.2)), (by (with_reducible repeat (first | apply Kd.R_alloc | apply Kd.R_drewN | apply Kd.R_drew)); exact Kd.R_mono HO225.out (fun _ hk => hk.2)), hb_⟩)
  rintro v224 w10 ⟨h0_, h1_, h2_⟩
  have n0_ : iD (Kd.R (Kd.int .u8) 5 w10 w.heap.size (fun k_ => some k_ ≠ (v224 : Value).ownBlock) v221 t220) := ⟨h0_⟩
  have n1_ : iD (Kd.R (Kd.int .u8) 5 w10 w.heap.size (fun k_ => some k_ ≠ (v221 : Value).ownBlock) v224 t223) := ⟨h1_⟩
  have n2_ : iD (Below w.heap.size w w10) := ⟨h2_⟩
  clear HB
  clear h0_ h1_ h2_
  have HO222 := n0_
  have HO225 := n1_
  have HB := n2_
  clear n0_ n1_ n2_
  have hHeld := trivial
  refine lI (a' := ?_) ?_ ?_
  rotate_left
  · simp only [pW, Act.put, List.setIfInBounds_toArray, List.set_cons_zero, List.set_cons_succ]
    rfl
  refine jM (i := 6) (N := some 11) (v := ?_) (a' := ?_) #[true, true, true, true, true, true, true, false] rfl rfl (jD HT_.out (by kernel_rfl)) (fun _ _ _ h => h) (Or.inl ⟨by rfl, ?_⟩) ?_ ?_
  rotate_left
  · intro w'
    go_simp
    with_reducible rfl
  rotate_left
  · simp only [Act.put, List.setIfInBounds_toArray, List.set_cons_zero, List.set_cons_succ, iY, jE]
    rfl
  refine jM (i := 7) (N := some 4) (v := ?_) (a' := ?_) #[true, true, true, true, true, true, true, true] rfl rfl (jD HT_.out (by kernel_rfl)) (fun _ _ _ h => h) (Or.inl ⟨by rfl, ?_⟩) ?_ ?_
  rotate_left
  · intro w'
    go_simp
    with_reducible rfl
  rotate_left
  · simp only [Act.put, List.setIfInBounds_toArray, List.set_cons_zero, List.set_cons_succ, iY, jE]
    rfl
  refine I5 (oZ HT_.out (by kernel_rfl)) ?_
  try go_wp2
  go_ret
  exact ⟨by first | rfl | (simp [iQ, iR] <;> rfl) | (simp [*, iQ, iR] <;> rfl), hb_⟩
end Go.Proofs.YtgfkgppomaapiaaDoor.K
end

section
namespace Go.Proofs.YtgfkgppomaapiaaDoor.K
open Go.RowKit Go.Proofs.YtgfkgppomaapiaaDoorW.PrintWords Go.Proofs.YtgfkgppomaapiaaDoorW.PrintLast Go.Proofs.YtgfkgppomaapiaaDoorW.PrintMore
attribute [local go_sem] kC kN
def stratumref07_Same.j0 : Nat → Bool → Int → Int → Int → List Int → List (S139) → Int → List (S98) → Int → Int → List (S86) → Int → Int → Int → List Int → List (S139) → Int → List (S98) → Int → Int → List (S86) → Option (Bool)
  | 0, _, _, _, _, _, _, _, _, _, _, _, _, _, _, _, _, _, _, _, _, _ => none
  | k + 1, x5, x227000, x227001, x227002, x227003, x227004, x227005, x227006, x227007, x227008, x227009, x228000, x228001, x228002, x228003, x228004, x228005, x228006, x228007, x228008, x228009 => if x5 = true then ((stratumref07_SameInts.f k x227003 x228003).bind fun t228 => (if t228 = true then ((stratumref07_SameFacts.f k x227004 x228004).bind fun t229 => (if t229 = true then ((stratumref07_SameMap.f k x227005 x227006 x228005 x228006).bind fun t230 => (if t230 = true then ((stratumref07_SameEntries.f x227009 x228009).bind fun t231 => (some t231)) else (some false))) else (some false))) else (some false))) else (some false)
def stratumref07_Same.f (k : Nat) (a0_0 : Int) (a0_1 : Int) (a0_2 : Int) (l0_3 : List Int) (l0_4 : List (S139)) (a0_5 : Int) (l0_6 : List (S98)) (a0_7 : Int) (a0_8 : Int) (l0_9 : List (S86)) (a1_0 : Int) (a1_1 : Int) (a1_2 : Int) (l1_3 : List Int) (l1_4 : List (S139)) (a1_5 : Int) (l1_6 : List (S98)) (a1_7 : Int) (a1_8 : Int) (l1_9 : List (S86)) : Option (Bool) := if a0_0 = a1_0 then (if a0_1 = a1_1 then (if a0_2 = a1_2 then (if a0_7 = a1_7 then (stratumref07_Same.j0 k (a0_8 == a1_8) a0_0 a0_1 a0_2 l0_3 l0_4 a0_5 l0_6 a0_7 a0_8 l0_9 a1_0 a1_1 a1_2 l1_3 l1_4 a1_5 l1_6 a1_7 a1_8 l1_9) else (stratumref07_Same.j0 k false a0_0 a0_1 a0_2 l0_3 l0_4 a0_5 l0_6 a0_7 a0_8 l0_9 a1_0 a1_1 a1_2 l1_3 l1_4 a1_5 l1_6 a1_7 a1_8 l1_9)) else (stratumref07_Same.j0 k false a0_0 a0_1 a0_2 l0_3 l0_4 a0_5 l0_6 a0_7 a0_8 l0_9 a1_0 a1_1 a1_2 l1_3 l1_4 a1_5 l1_6 a1_7 a1_8 l1_9)) else (stratumref07_Same.j0 k false a0_0 a0_1 a0_2 l0_3 l0_4 a0_5 l0_6 a0_7 a0_8 l0_9 a1_0 a1_1 a1_2 l1_3 l1_4 a1_5 l1_6 a1_7 a1_8 l1_9)) else (stratumref07_Same.j0 k false a0_0 a0_1 a0_2 l0_3 l0_4 a0_5 l0_6 a0_7 a0_8 l0_9 a1_0 a1_1 a1_2 l1_3 l1_4 a1_5 l1_6 a1_7 a1_8 l1_9)
set_option maxHeartbeats 8000000 in
set_option maxRecDepth 100000 in
theorem stratumref07_Same.calls (k : Nat) (a0_0 : Int) (a0_1 : Int) (a0_2 : Int) (A0_3 : Option Addr) (c0_3 : Nat) (l0_3 : List Int) (A0_4 : Option Addr) (c0_4 : Nat) (l0_4 : List (S139)) (a0_5 : Int) (A0_6 : Option Addr) (c0_6 : Nat) (l0_6 : List (S98)) (a0_7 : Int) (a0_8 : Int) (A0_9 : Option Addr) (c0_9 : Nat) (l0_9 : List (S86)) (a1_0 : Int) (a1_1 : Int) (a1_2 : Int) (A1_3 : Option Addr) (c1_3 : Nat) (l1_3 : List Int) (A1_4 : Option Addr) (c1_4 : Nat) (l1_4 : List (S139)) (a1_5 : Int) (A1_6 : Option Addr) (c1_6 : Nat) (l1_6 : List (S98)) (a1_7 : Int) (a1_8 : Int) (A1_9 : Option Addr) (c1_9 : Nat) (l1_9 : List (S86)) (r : Bool) (w : World) (hr0_3 : Kd.C (Kd.int .i64) w A0_3 l0_3.length l0_3) (hc0_3 : l0_3.length ≤ c0_3) (hr0_4 : Kd.C k139 w A0_4 l0_4.length l0_4) (hc0_4 : l0_4.length ≤ c0_4) (hr0_6 : Kd.C k98 w A0_6 l0_6.length l0_6) (hc0_6 : l0_6.length ≤ c0_6) (hr0_9 : Kd.C k86 w A0_9 l0_9.length l0_9) (hc0_9 : l0_9.length ≤ c0_9) (hr1_3 : Kd.C (Kd.int .i64) w A1_3 l1_3.length l1_3) (hc1_3 : l1_3.length ≤ c1_3) (hr1_4 : Kd.C k139 w A1_4 l1_4.length l1_4) (hc1_4 : l1_4.length ≤ c1_4) (hr1_6 : Kd.C k98 w A1_6 l1_6.length l1_6) (hc1_6 : l1_6.length ≤ c1_6) (hr1_9 : Kd.C k86 w A1_9 l1_9.length l1_9) (hc1_9 : l1_9.length ≤ c1_9) (h : stratumref07_Same.f k a0_0 a0_1 a0_2 l0_3 l0_4 a0_5 l0_6 a0_7 a0_8 l0_9 a1_0 a1_1 a1_2 l1_3 l1_4 a1_5 l1_6 a1_7 a1_8 l1_9 = some r) :
    Calls Tryd.prog 23 #[.agg #[.int .u8 a0_0, .int .u32 a0_1, .int .u32 a0_2, .slice A0_3 l0_3.length c0_3, .slice A0_4 l0_4.length c0_4, .int .u32 a0_5, .slice A0_6 l0_6.length c0_6, .int .i64 a0_7, .int .i64 a0_8, .slice A0_9 l0_9.length c0_9], .agg #[.int .u8 a1_0, .int .u32 a1_1, .int .u32 a1_2, .slice A1_3 l1_3.length c1_3, .slice A1_4 l1_4.length c1_4, .int .u32 a1_5, .slice A1_6 l1_6.length c1_6, .int .i64 a1_7, .int .i64 a1_8, .slice A1_9 l1_9.length c1_9]] w fun e w' => e = .returned (.bool r) ∧ Below w.heap.size w w' := by
  have hu30 := Tryd.underlying30
  have hu27 := Tryd.underlying27
  have HR0_3 := iD.mk hr0_3
  have HC0_3 := iD.mk hc0_3
  clear hr0_3 hc0_3
  have HR0_4 := iD.mk hr0_4
  have HC0_4 := iD.mk hc0_4
  clear hr0_4 hc0_4
  have HR0_6 := iD.mk hr0_6
  have HC0_6 := iD.mk hc0_6
  clear hr0_6 hc0_6
  have HR0_9 := iD.mk hr0_9
  have HC0_9 := iD.mk hc0_9
  clear hr0_9 hc0_9
  have HR1_3 := iD.mk hr1_3
  have HC1_3 := iD.mk hc1_3
  clear hr1_3 hc1_3
  have HR1_4 := iD.mk hr1_4
  have HC1_4 := iD.mk hc1_4
  clear hr1_4 hc1_4
  have HR1_6 := iD.mk hr1_6
  have HC1_6 := iD.mk hc1_6
  clear hr1_6 hc1_6
  have HR1_9 := iD.mk hr1_9
  have HC1_9 := iD.mk hc1_9
  clear hr1_9 hc1_9
  have HB := iD.mk (Below.refl w.heap.size w)
  have H : (if a0_0 = a1_0 then (if a0_1 = a1_1 then (if a0_2 = a1_2 then (if a0_7 = a1_7 then (stratumref07_Same.j0 k (a0_8 == a1_8) a0_0 a0_1 a0_2 l0_3 l0_4 a0_5 l0_6 a0_7 a0_8 l0_9 a1_0 a1_1 a1_2 l1_3 l1_4 a1_5 l1_6 a1_7 a1_8 l1_9) else (stratumref07_Same.j0 k false a0_0 a0_1 a0_2 l0_3 l0_4 a0_5 l0_6 a0_7 a0_8 l0_9 a1_0 a1_1 a1_2 l1_3 l1_4 a1_5 l1_6 a1_7 a1_8 l1_9)) else (stratumref07_Same.j0 k false a0_0 a0_1 a0_2 l0_3 l0_4 a0_5 l0_6 a0_7 a0_8 l0_9 a1_0 a1_1 a1_2 l1_3 l1_4 a1_5 l1_6 a1_7 a1_8 l1_9)) else (stratumref07_Same.j0 k false a0_0 a0_1 a0_2 l0_3 l0_4 a0_5 l0_6 a0_7 a0_8 l0_9 a1_0 a1_1 a1_2 l1_3 l1_4 a1_5 l1_6 a1_7 a1_8 l1_9)) else (stratumref07_Same.j0 k false a0_0 a0_1 a0_2 l0_3 l0_4 a0_5 l0_6 a0_7 a0_8 l0_9 a1_0 a1_1 a1_2 l1_3 l1_4 a1_5 l1_6 a1_7 a1_8 l1_9)) = some r := h
  clear h
  have HC3 := iD.mk H
  clear H
  go_enter Tryd.func23, Tryd.ntmps23
  go_upto_region 1 with (first | ((with_reducible refine jS (N := 2) rfl ?_); refine jO ?hg (N := 2) ?hd (cs := #[.int .u8 a0_0, .int .u32 a0_1, .int .u32 a0_2, .slice A0_3 l0_3.length c0_3, .slice A0_4 l0_4.length c0_4, .int .u32 a0_5, .slice A0_6 l0_6.length c0_6, .int .i64 a0_7, .int .i64 a0_8, .slice A0_9 l0_9.length c0_9]) (t := 30) ?hr ?_; (case hd => rfl); (case hg => rfl); (case hr => first | (go_simp; done) | (go_simp; rfl)); intro gb226 hg w4 hbox hb; have n0_ := iD.mk (iL hb_ hb); have n1_ := iD.mk (hbox); have n2_ := iD.mk ((by rw [hg]; exact (iT hb_) : w.heap.size ≤ gb226)); have n3_ := iD.mk ((by rw [hg]; exact (iT hb_) : w.heap.size ≤ gb226)); clear HB; have HB := n0_; have BK226 := n1_; have GW226 := n2_; have GE226 := n3_; clear n0_ n1_ n2_ n3_; clear hb hbox hg) | ((with_reducible refine jS (N := 3) rfl ?_); refine jO ?hg (N := 3) ?hd (cs := #[.int .u8 a1_0, .int .u32 a1_1, .int .u32 a1_2, .slice A1_3 l1_3.length c1_3, .slice A1_4 l1_4.length c1_4, .int .u32 a1_5, .slice A1_6 l1_6.length c1_6, .int .i64 a1_7, .int .i64 a1_8, .slice A1_9 l1_9.length c1_9]) (t := 30) ?hr ?_; (case hd => rfl); (case hg => rfl); (case hr => first | (go_simp; done) | (go_simp; rfl)); intro gb227 hg w5 hbox hb; have n0_ := iD.mk (jJ (g := gb226) (o := .cells #[.int .u8 a0_0, .int .u32 a0_1, .int .u32 a0_2, .slice A0_3 l0_3.length c0_3, .slice A0_4 l0_4.length c0_4, .int .u32 a0_5, .slice A0_6 l0_6.length c0_6, .int .i64 a0_7, .int .i64 a0_8, .slice A0_9 l0_9.length c0_9] 30 (0, 0)) (bk_ BK226.out) hb); have n1_ := iD.mk (iL (by repeat (first | (with_reducible first | exact HB.out | apply iF | apply iG | apply iH | refine iI ?_ GE226.out) | exact HB.out)) hb); have n2_ := iD.mk (hbox); have n3_ := iD.mk ((by rw [hg]; exact (iT (by repeat (first | (with_reducible first | exact HB.out | apply iF | apply iG | apply iH | refine iI ?_ GE226.out) | exact HB.out))) : w.heap.size ≤ gb227)); have n4_ := iD.mk ((by rw [hg]; exact (iT (by repeat (first | (with_reducible first | exact HB.out | apply iF | apply iG | apply iH | refine iI ?_ GE226.out) | exact HB.out))) : w.heap.size ≤ gb227)); have n5_ := iD.mk ((by rw [hg]; exact Nat.ne_of_lt (jQ (g := gb226) (o := .cells #[.int .u8 a0_0, .int .u32 a0_1, .int .u32 a0_2, .slice A0_3 l0_3.length c0_3, .slice A0_4 l0_4.length c0_4, .int .u32 a0_5, .slice A0_6 l0_6.length c0_6, .int .i64 a0_7, .int .i64 a0_8, .slice A0_9 l0_9.length c0_9] 30 (0, 0)) (bk_ BK226.out)) : gb226 ≠ gb227)); have n6_ := iD.mk ((by rw [hg]; exact Nat.ne_of_gt (jQ (g := gb226) (o := .cells #[.int .u8 a0_0, .int .u32 a0_1, .int .u32 a0_2, .slice A0_3 l0_3.length c0_3, .slice A0_4 l0_4.length c0_4, .int .u32 a0_5, .slice A0_6 l0_6.length c0_6, .int .i64 a0_7, .int .i64 a0_8, .slice A0_9 l0_9.length c0_9] 30 (0, 0)) (bk_ BK226.out)) : gb227 ≠ gb226)); clear BK226; clear HB; have BK226 := n0_; have HB := n1_; have BK227 := n2_; have GW227 := n3_; have GE227 := n4_; have NB226_227 := n5_; have NB227_226 := n6_; clear n0_ n1_ n2_ n3_ n4_ n5_ n6_; clear hb hbox hg))
  (try simp only [Act.put, List.setIfInBounds_toArray, List.set_cons_zero, List.set_cons_succ])
  go_cut [5] (fun v5 wc => ∃ (kq : Nat) (x5_2 : Bool), v5 = .bool x5_2 ∧ iD (stratumref07_Same.j0 kq x5_2 a0_0 a0_1 a0_2 l0_3 l0_4 a0_5 l0_6 a0_7 a0_8 l0_9 a1_0 a1_1 a1_2 l1_3 l1_4 a1_5 l1_6 a1_7 a1_8 l1_9 = some r) ∧ iD (kq ≤ k) ∧ iD (wc.heap[gb226]? = some (.cells #[.int .u8 a0_0, .int .u32 a0_1, .int .u32 a0_2, (.slice A0_3 l0_3.length c0_3), (.slice A0_4 l0_4.length c0_4), .int .u32 a0_5, (.slice A0_6 l0_6.length c0_6), .int .i64 a0_7, .int .i64 a0_8, (.slice A0_9 l0_9.length c0_9)] 30 (0, 0))) ∧ iD (wc.heap[gb227]? = some (.cells #[.int .u8 a1_0, .int .u32 a1_1, .int .u32 a1_2, (.slice A1_3 l1_3.length c1_3), (.slice A1_4 l1_4.length c1_4), .int .u32 a1_5, (.slice A1_6 l1_6.length c1_6), .int .i64 a1_7, .int .i64 a1_8, (.slice A1_9 l1_9.length c1_9)] 30 (0, 0))) ∧ iD (Below w.heap.size w wc))
  case first =>
    have H := HC3.out
    clear HC3
    by_cases c6 : a0_0 = a1_0
    · rw [if_pos c6] at H
      have c6b0 : (a0_0 == a1_0) = true := beq_iff_eq.mpr c6
      have c6b1 : (a0_0 != a1_0) = false := bne_eq_false_iff_eq.mpr c6
      clear c6
      (first | rw [c6b0] | (simp only [iY, jE]; rw [c6b0]) | skip)
      by_cases c7 : a0_1 = a1_1
      · rw [if_pos c7] at H
        have c7b0 : (a0_1 == a1_1) = true := beq_iff_eq.mpr c7
        have c7b1 : (a0_1 != a1_1) = false := bne_eq_false_iff_eq.mpr c7
        clear c7
        by_cases c8 : a0_2 = a1_2
        · rw [if_pos c8] at H
          have c8b0 : (a0_2 == a1_2) = true := beq_iff_eq.mpr c8
          have c8b1 : (a0_2 != a1_2) = false := bne_eq_false_iff_eq.mpr c8
          clear c8
          by_cases c9 : a0_7 = a1_7
          · rw [if_pos c9] at H
            have c9b0 : (a0_7 == a1_7) = true := beq_iff_eq.mpr c9
            have c9b1 : (a0_7 != a1_7) = false := bne_eq_false_iff_eq.mpr c9
            clear c9
            have H' := iD.mk H
            clear H
            have hnb10 := NB226_227.out
            have hnc10 := NB227_226.out
            have hcz11_0 : w5.cell? ⟨gb226, 0, none⟩ = some (.int .u8 a0_0) := (iE BK226.out 0).trans rfl
            have hcz11_1 : w5.cell? ⟨gb226, 1, none⟩ = some (.int .u32 a0_1) := (iE BK226.out 1).trans rfl
            have hcz11_2 : w5.cell? ⟨gb226, 2, none⟩ = some (.int .u32 a0_2) := (iE BK226.out 2).trans rfl
            have hcz11_3 : w5.cell? ⟨gb226, 3, none⟩ = some (.slice A0_3 l0_3.length c0_3) := (iE BK226.out 3).trans rfl
            have hcz11_4 : w5.cell? ⟨gb226, 4, none⟩ = some (.slice A0_4 l0_4.length c0_4) := (iE BK226.out 4).trans rfl
            have hcz11_5 : w5.cell? ⟨gb226, 5, none⟩ = some (.int .u32 a0_5) := (iE BK226.out 5).trans rfl
            have hcz11_6 : w5.cell? ⟨gb226, 6, none⟩ = some (.slice A0_6 l0_6.length c0_6) := (iE BK226.out 6).trans rfl
            have hcz11_7 : w5.cell? ⟨gb226, 7, none⟩ = some (.int .i64 a0_7) := (iE BK226.out 7).trans rfl
            have hcz11_8 : w5.cell? ⟨gb226, 8, none⟩ = some (.int .i64 a0_8) := (iE BK226.out 8).trans rfl
            have hcz11_9 : w5.cell? ⟨gb226, 9, none⟩ = some (.slice A0_9 l0_9.length c0_9) := (iE BK226.out 9).trans rfl
            have hfz11_0 := iC BK226.out 0
            have hfz11_1 := iC BK226.out 1
            have hfz11_2 := iC BK226.out 2
            have hfz11_3 := iC BK226.out 3
            have hfz11_4 := iC BK226.out 4
            have hfz11_5 := iC BK226.out 5
            have hfz11_6 := iC BK226.out 6
            have hfz11_7 := iC BK226.out 7
            have hfz11_8 := iC BK226.out 8
            have hfz11_9 := iC BK226.out 9
            have hcz12_0 : w5.cell? ⟨gb227, 0, none⟩ = some (.int .u8 a1_0) := (iE BK227.out 0).trans rfl
            have hcz12_1 : w5.cell? ⟨gb227, 1, none⟩ = some (.int .u32 a1_1) := (iE BK227.out 1).trans rfl
            have hcz12_2 : w5.cell? ⟨gb227, 2, none⟩ = some (.int .u32 a1_2) := (iE BK227.out 2).trans rfl
            have hcz12_3 : w5.cell? ⟨gb227, 3, none⟩ = some (.slice A1_3 l1_3.length c1_3) := (iE BK227.out 3).trans rfl
            have hcz12_4 : w5.cell? ⟨gb227, 4, none⟩ = some (.slice A1_4 l1_4.length c1_4) := (iE BK227.out 4).trans rfl
            have hcz12_5 : w5.cell? ⟨gb227, 5, none⟩ = some (.int .u32 a1_5) := (iE BK227.out 5).trans rfl
            have hcz12_6 : w5.cell? ⟨gb227, 6, none⟩ = some (.slice A1_6 l1_6.length c1_6) := (iE BK227.out 6).trans rfl
            have hcz12_7 : w5.cell? ⟨gb227, 7, none⟩ = some (.int .i64 a1_7) := (iE BK227.out 7).trans rfl
            have hcz12_8 : w5.cell? ⟨gb227, 8, none⟩ = some (.int .i64 a1_8) := (iE BK227.out 8).trans rfl
            have hcz12_9 : w5.cell? ⟨gb227, 9, none⟩ = some (.slice A1_9 l1_9.length c1_9) := (iE BK227.out 9).trans rfl
            have hfz12_0 := iC BK227.out 0
            have hfz12_1 := iC BK227.out 1
            have hfz12_2 := iC BK227.out 2
            have hfz12_3 := iC BK227.out 3
            have hfz12_4 := iC BK227.out 4
            have hfz12_5 := iC BK227.out 5
            have hfz12_6 := iC BK227.out 6
            have hfz12_7 := iC BK227.out 7
            have hfz12_8 := iC BK227.out 8
            have hfz12_9 := iC BK227.out 9
            go_wp2
            go_meet
            case rel => exact ⟨_, ((a0_8 == a1_8)), (by first | rfl | (simp; done) | (simp [*]; done)), H', ⟨by first | omega | exact Nat.le_refl _⟩, ⟨bk_ BK226.out⟩, ⟨bk_ BK227.out⟩, ⟨by repeat (first | (with_reducible first | exact HB.out | apply iF | apply iG | apply iH | refine iI ?_ GE226.out | refine iI ?_ GE227.out) | exact HB.out)⟩⟩
          · rw [if_neg c9] at H
            have c9b0 : (a0_7 == a1_7) = false := beq_eq_false_iff_ne.mpr c9
            have c9b1 : (a0_7 != a1_7) = true := bne_iff_ne.mpr c9
            have H' := iD.mk H
            clear H
            have hnb13 := NB226_227.out
            have hnc13 := NB227_226.out
            have hcz14_0 : w5.cell? ⟨gb226, 0, none⟩ = some (.int .u8 a0_0) := (iE BK226.out 0).trans rfl
            have hcz14_1 : w5.cell? ⟨gb226, 1, none⟩ = some (.int .u32 a0_1) := (iE BK226.out 1).trans rfl
            have hcz14_2 : w5.cell? ⟨gb226, 2, none⟩ = some (.int .u32 a0_2) := (iE BK226.out 2).trans rfl
            have hcz14_3 : w5.cell? ⟨gb226, 3, none⟩ = some (.slice A0_3 l0_3.length c0_3) := (iE BK226.out 3).trans rfl
            have hcz14_4 : w5.cell? ⟨gb226, 4, none⟩ = some (.slice A0_4 l0_4.length c0_4) := (iE BK226.out 4).trans rfl
            have hcz14_5 : w5.cell? ⟨gb226, 5, none⟩ = some (.int .u32 a0_5) := (iE BK226.out 5).trans rfl
            have hcz14_6 : w5.cell? ⟨gb226, 6, none⟩ = some (.slice A0_6 l0_6.length c0_6) := (iE BK226.out 6).trans rfl
            have hcz14_7 : w5.cell? ⟨gb226, 7, none⟩ = some (.int .i64 a0_7) := (iE BK226.out 7).trans rfl
            have hcz14_8 : w5.cell? ⟨gb226, 8, none⟩ = some (.int .i64 a0_8) := (iE BK226.out 8).trans rfl
            have hcz14_9 : w5.cell? ⟨gb226, 9, none⟩ = some (.slice A0_9 l0_9.length c0_9) := (iE BK226.out 9).trans rfl
            have hfz14_0 := iC BK226.out 0
            have hfz14_1 := iC BK226.out 1
            have hfz14_2 := iC BK226.out 2
            have hfz14_3 := iC BK226.out 3
            have hfz14_4 := iC BK226.out 4
            have hfz14_5 := iC BK226.out 5
            have hfz14_6 := iC BK226.out 6
            have hfz14_7 := iC BK226.out 7
            have hfz14_8 := iC BK226.out 8
            have hfz14_9 := iC BK226.out 9
            have hcz15_0 : w5.cell? ⟨gb227, 0, none⟩ = some (.int .u8 a1_0) := (iE BK227.out 0).trans rfl
            have hcz15_1 : w5.cell? ⟨gb227, 1, none⟩ = some (.int .u32 a1_1) := (iE BK227.out 1).trans rfl
            have hcz15_2 : w5.cell? ⟨gb227, 2, none⟩ = some (.int .u32 a1_2) := (iE BK227.out 2).trans rfl
            have hcz15_3 : w5.cell? ⟨gb227, 3, none⟩ = some (.slice A1_3 l1_3.length c1_3) := (iE BK227.out 3).trans rfl
            have hcz15_4 : w5.cell? ⟨gb227, 4, none⟩ = some (.slice A1_4 l1_4.length c1_4) := (iE BK227.out 4).trans rfl
            have hcz15_5 : w5.cell? ⟨gb227, 5, none⟩ = some (.int .u32 a1_5) := (iE BK227.out 5).trans rfl
            have hcz15_6 : w5.cell? ⟨gb227, 6, none⟩ = some (.slice A1_6 l1_6.length c1_6) := (iE BK227.out 6).trans rfl
            have hcz15_7 : w5.cell? ⟨gb227, 7, none⟩ = some (.int .i64 a1_7) := (iE BK227.out 7).trans rfl
            have hcz15_8 : w5.cell? ⟨gb227, 8, none⟩ = some (.int .i64 a1_8) := (iE BK227.out 8).trans rfl
            have hcz15_9 : w5.cell? ⟨gb227, 9, none⟩ = some (.slice A1_9 l1_9.length c1_9) := (iE BK227.out 9).trans rfl
            have hfz15_0 := iC BK227.out 0
            have hfz15_1 := iC BK227.out 1
            have hfz15_2 := iC BK227.out 2
            have hfz15_3 := iC BK227.out 3
            have hfz15_4 := iC BK227.out 4
            have hfz15_5 := iC BK227.out 5
            have hfz15_6 := iC BK227.out 6
            have hfz15_7 := iC BK227.out 7
            have hfz15_8 := iC BK227.out 8
            have hfz15_9 := iC BK227.out 9
            go_wp2
            go_meet
            case rel => exact ⟨_, (false), (by first | rfl | (simp; done) | (simp [*]; done)), H', ⟨by first | omega | exact Nat.le_refl _⟩, ⟨bk_ BK226.out⟩, ⟨bk_ BK227.out⟩, ⟨by repeat (first | (with_reducible first | exact HB.out | apply iF | apply iG | apply iH | refine iI ?_ GE226.out | refine iI ?_ GE227.out) | exact HB.out)⟩⟩
        · rw [if_neg c8] at H
          have c8b0 : (a0_2 == a1_2) = false := beq_eq_false_iff_ne.mpr c8
          have c8b1 : (a0_2 != a1_2) = true := bne_iff_ne.mpr c8
          have H' := iD.mk H
          clear H
          have hnb16 := NB226_227.out
          have hnc16 := NB227_226.out
          have hcz17_0 : w5.cell? ⟨gb226, 0, none⟩ = some (.int .u8 a0_0) := (iE BK226.out 0).trans rfl
          have hcz17_1 : w5.cell? ⟨gb226, 1, none⟩ = some (.int .u32 a0_1) := (iE BK226.out 1).trans rfl
          have hcz17_2 : w5.cell? ⟨gb226, 2, none⟩ = some (.int .u32 a0_2) := (iE BK226.out 2).trans rfl
          have hcz17_3 : w5.cell? ⟨gb226, 3, none⟩ = some (.slice A0_3 l0_3.length c0_3) := (iE BK226.out 3).trans rfl
          have hcz17_4 : w5.cell? ⟨gb226, 4, none⟩ = some (.slice A0_4 l0_4.length c0_4) := (iE BK226.out 4).trans rfl
          have hcz17_5 : w5.cell? ⟨gb226, 5, none⟩ = some (.int .u32 a0_5) := (iE BK226.out 5).trans rfl
          have hcz17_6 : w5.cell? ⟨gb226, 6, none⟩ = some (.slice A0_6 l0_6.length c0_6) := (iE BK226.out 6).trans rfl
          have hcz17_7 : w5.cell? ⟨gb226, 7, none⟩ = some (.int .i64 a0_7) := (iE BK226.out 7).trans rfl
          have hcz17_8 : w5.cell? ⟨gb226, 8, none⟩ = some (.int .i64 a0_8) := (iE BK226.out 8).trans rfl
          have hcz17_9 : w5.cell? ⟨gb226, 9, none⟩ = some (.slice A0_9 l0_9.length c0_9) := (iE BK226.out 9).trans rfl
          have hfz17_0 := iC BK226.out 0
          have hfz17_1 := iC BK226.out 1
          have hfz17_2 := iC BK226.out 2
          have hfz17_3 := iC BK226.out 3
          have hfz17_4 := iC BK226.out 4
          have hfz17_5 := iC BK226.out 5
          have hfz17_6 := iC BK226.out 6
          have hfz17_7 := iC BK226.out 7
          have hfz17_8 := iC BK226.out 8
          have hfz17_9 := iC BK226.out 9
          have hcz18_0 : w5.cell? ⟨gb227, 0, none⟩ = some (.int .u8 a1_0) := (iE BK227.out 0).trans rfl
          have hcz18_1 : w5.cell? ⟨gb227, 1, none⟩ = some (.int .u32 a1_1) := (iE BK227.out 1).trans rfl
          have hcz18_2 : w5.cell? ⟨gb227, 2, none⟩ = some (.int .u32 a1_2) := (iE BK227.out 2).trans rfl
          have hcz18_3 : w5.cell? ⟨gb227, 3, none⟩ = some (.slice A1_3 l1_3.length c1_3) := (iE BK227.out 3).trans rfl
          have hcz18_4 : w5.cell? ⟨gb227, 4, none⟩ = some (.slice A1_4 l1_4.length c1_4) := (iE BK227.out 4).trans rfl
          have hcz18_5 : w5.cell? ⟨gb227, 5, none⟩ = some (.int .u32 a1_5) := (iE BK227.out 5).trans rfl
          have hcz18_6 : w5.cell? ⟨gb227, 6, none⟩ = some (.slice A1_6 l1_6.length c1_6) := (iE BK227.out 6).trans rfl
          have hcz18_7 : w5.cell? ⟨gb227, 7, none⟩ = some (.int .i64 a1_7) := (iE BK227.out 7).trans rfl
          have hcz18_8 : w5.cell? ⟨gb227, 8, none⟩ = some (.int .i64 a1_8) := (iE BK227.out 8).trans rfl
          have hcz18_9 : w5.cell? ⟨gb227, 9, none⟩ = some (.slice A1_9 l1_9.length c1_9) := (iE BK227.out 9).trans rfl
          have hfz18_0 := iC BK227.out 0
          have hfz18_1 := iC BK227.out 1
          have hfz18_2 := iC BK227.out 2
          have hfz18_3 := iC BK227.out 3
          have hfz18_4 := iC BK227.out 4
          have hfz18_5 := iC BK227.out 5
          have hfz18_6 := iC BK227.out 6
          have hfz18_7 := iC BK227.out 7
          have hfz18_8 := iC BK227.out 8
          have hfz18_9 := iC BK227.out 9
          go_wp2
          go_meet
          case rel => exact ⟨_, (false), (by first | rfl | (simp; done) | (simp [*]; done)), H', ⟨by first | omega | exact Nat.le_refl _⟩, ⟨bk_ BK226.out⟩, ⟨bk_ BK227.out⟩, ⟨by repeat (first | (with_reducible first | exact HB.out | apply iF | apply iG | apply iH | refine iI ?_ GE226.out | refine iI ?_ GE227.out) | exact HB.out)⟩⟩
      · rw [if_neg c7] at H
        have c7b0 : (a0_1 == a1_1) = false := beq_eq_false_iff_ne.mpr c7
        have c7b1 : (a0_1 != a1_1) = true := bne_iff_ne.mpr c7
        have H' := iD.mk H
        clear H
        have hnb19 := NB226_227.out
        have hnc19 := NB227_226.out
        have hcz20_0 : w5.cell? ⟨gb226, 0, none⟩ = some (.int .u8 a0_0) := (iE BK226.out 0).trans rfl
        have hcz20_1 : w5.cell? ⟨gb226, 1, none⟩ = some (.int .u32 a0_1) := (iE BK226.out 1).trans rfl
        have hcz20_2 : w5.cell? ⟨gb226, 2, none⟩ = some (.int .u32 a0_2) := (iE BK226.out 2).trans rfl
        have hcz20_3 : w5.cell? ⟨gb226, 3, none⟩ = some (.slice A0_3 l0_3.length c0_3) := (iE BK226.out 3).trans rfl
        have hcz20_4 : w5.cell? ⟨gb226, 4, none⟩ = some (.slice A0_4 l0_4.length c0_4) := (iE BK226.out 4).trans rfl
        have hcz20_5 : w5.cell? ⟨gb226, 5, none⟩ = some (.int .u32 a0_5) := (iE BK226.out 5).trans rfl
        have hcz20_6 : w5.cell? ⟨gb226, 6, none⟩ = some (.slice A0_6 l0_6.length c0_6) := (iE BK226.out 6).trans rfl
        have hcz20_7 : w5.cell? ⟨gb226, 7, none⟩ = some (.int .i64 a0_7) := (iE BK226.out 7).trans rfl
        have hcz20_8 : w5.cell? ⟨gb226, 8, none⟩ = some (.int .i64 a0_8) := (iE BK226.out 8).trans rfl
        have hcz20_9 : w5.cell? ⟨gb226, 9, none⟩ = some (.slice A0_9 l0_9.length c0_9) := (iE BK226.out 9).trans rfl
        have hfz20_0 := iC BK226.out 0
        have hfz20_1 := iC BK226.out 1
        have hfz20_2 := iC BK226.out 2
        have hfz20_3 := iC BK226.out 3
        have hfz20_4 := iC BK226.out 4
        have hfz20_5 := iC BK226.out 5
        have hfz20_6 := iC BK226.out 6
        have hfz20_7 := iC BK226.out 7
        have hfz20_8 := iC BK226.out 8
        have hfz20_9 := iC BK226.out 9
        have hcz21_0 : w5.cell? ⟨gb227, 0, none⟩ = some (.int .u8 a1_0) := (iE BK227.out 0).trans rfl
        have hcz21_1 : w5.cell? ⟨gb227, 1, none⟩ = some (.int .u32 a1_1) := (iE BK227.out 1).trans rfl
        have hcz21_2 : w5.cell? ⟨gb227, 2, none⟩ = some (.int .u32 a1_2) := (iE BK227.out 2).trans rfl
        have hcz21_3 : w5.cell? ⟨gb227, 3, none⟩ = some (.slice A1_3 l1_3.length c1_3) := (iE BK227.out 3).trans rfl
        have hcz21_4 : w5.cell? ⟨gb227, 4, none⟩ = some (.slice A1_4 l1_4.length c1_4) := (iE BK227.out 4).trans rfl
        have hcz21_5 : w5.cell? ⟨gb227, 5, none⟩ = some (.int .u32 a1_5) := (iE BK227.out 5).trans rfl
        have hcz21_6 : w5.cell? ⟨gb227, 6, none⟩ = some (.slice A1_6 l1_6.length c1_6) := (iE BK227.out 6).trans rfl
        have hcz21_7 : w5.cell? ⟨gb227, 7, none⟩ = some (.int .i64 a1_7) := (iE BK227.out 7).trans rfl
        have hcz21_8 : w5.cell? ⟨gb227, 8, none⟩ = some (.int .i64 a1_8) := (iE BK227.out 8).trans rfl
        have hcz21_9 : w5.cell? ⟨gb227, 9, none⟩ = some (.slice A1_9 l1_9.length c1_9) := (iE BK227.out 9).trans rfl
        have hfz21_0 := iC BK227.out 0
        have hfz21_1 := iC BK227.out 1
        have hfz21_2 := iC BK227.out 2
        have hfz21_3 := iC BK227.out 3
        have hfz21_4 := iC BK227.out 4
        have hfz21_5 := iC BK227.out 5
        have hfz21_6 := iC BK227.out 6
        have hfz21_7 := iC BK227.out 7
        have hfz21_8 := iC BK227.out 8
        have hfz21_9 := iC BK227.out 9
        go_wp2
        go_meet
        case rel => exact ⟨_, (false), (by first | rfl | (simp; done) | (simp [*]; done)), H', ⟨by first | omega | exact Nat.le_refl _⟩, ⟨bk_ BK226.out⟩, ⟨bk_ BK227.out⟩, ⟨by repeat (first | (with_reducible first | exact HB.out | apply iF | apply iG | apply iH | refine iI ?_ GE226.out | refine iI ?_ GE227.out) | exact HB.out)⟩⟩
    · rw [if_neg c6] at H
      have c6b0 : (a0_0 == a1_0) = false := beq_eq_false_iff_ne.mpr c6
      have c6b1 : (a0_0 != a1_0) = true := bne_iff_ne.mpr c6
      (first | rw [c6b0] | (simp only [iY, jE]; rw [c6b0]) | skip)
      have H' := iD.mk H
      clear H
      have hnb22 := NB226_227.out
      have hnc22 := NB227_226.out
      have hcz23_0 : w5.cell? ⟨gb226, 0, none⟩ = some (.int .u8 a0_0) := (iE BK226.out 0).trans rfl
      have hcz23_1 : w5.cell? ⟨gb226, 1, none⟩ = some (.int .u32 a0_1) := (iE BK226.out 1).trans rfl
      have hcz23_2 : w5.cell? ⟨gb226, 2, none⟩ = some (.int .u32 a0_2) := (iE BK226.out 2).trans rfl
      have hcz23_3 : w5.cell? ⟨gb226, 3, none⟩ = some (.slice A0_3 l0_3.length c0_3) := (iE BK226.out 3).trans rfl
      have hcz23_4 : w5.cell? ⟨gb226, 4, none⟩ = some (.slice A0_4 l0_4.length c0_4) := (iE BK226.out 4).trans rfl
      have hcz23_5 : w5.cell? ⟨gb226, 5, none⟩ = some (.int .u32 a0_5) := (iE BK226.out 5).trans rfl
      have hcz23_6 : w5.cell? ⟨gb226, 6, none⟩ = some (.slice A0_6 l0_6.length c0_6) := (iE BK226.out 6).trans rfl
      have hcz23_7 : w5.cell? ⟨gb226, 7, none⟩ = some (.int .i64 a0_7) := (iE BK226.out 7).trans rfl
      have hcz23_8 : w5.cell? ⟨gb226, 8, none⟩ = some (.int .i64 a0_8) := (iE BK226.out 8).trans rfl
      have hcz23_9 : w5.cell? ⟨gb226, 9, none⟩ = some (.slice A0_9 l0_9.length c0_9) := (iE BK226.out 9).trans rfl
      have hfz23_0 := iC BK226.out 0
      have hfz23_1 := iC BK226.out 1
      have hfz23_2 := iC BK226.out 2
      have hfz23_3 := iC BK226.out 3
      have hfz23_4 := iC BK226.out 4
      have hfz23_5 := iC BK226.out 5
      have hfz23_6 := iC BK226.out 6
      have hfz23_7 := iC BK226.out 7
      have hfz23_8 := iC BK226.out 8
      have hfz23_9 := iC BK226.out 9
      have hcz24_0 : w5.cell? ⟨gb227, 0, none⟩ = some (.int .u8 a1_0) := (iE BK227.out 0).trans rfl
      have hcz24_1 : w5.cell? ⟨gb227, 1, none⟩ = some (.int .u32 a1_1) := (iE BK227.out 1).trans rfl
      have hcz24_2 : w5.cell? ⟨gb227, 2, none⟩ = some (.int .u32 a1_2) := (iE BK227.out 2).trans rfl
      have hcz24_3 : w5.cell? ⟨gb227, 3, none⟩ = some (.slice A1_3 l1_3.length c1_3) := (iE BK227.out 3).trans rfl
      have hcz24_4 : w5.cell? ⟨gb227, 4, none⟩ = some (.slice A1_4 l1_4.length c1_4) := (iE BK227.out 4).trans rfl
      have hcz24_5 : w5.cell? ⟨gb227, 5, none⟩ = some (.int .u32 a1_5) := (iE BK227.out 5).trans rfl
      have hcz24_6 : w5.cell? ⟨gb227, 6, none⟩ = some (.slice A1_6 l1_6.length c1_6) := (iE BK227.out 6).trans rfl
      have hcz24_7 : w5.cell? ⟨gb227, 7, none⟩ = some (.int .i64 a1_7) := (iE BK227.out 7).trans rfl
      have hcz24_8 : w5.cell? ⟨gb227, 8, none⟩ = some (.int .i64 a1_8) := (iE BK227.out 8).trans rfl
      have hcz24_9 : w5.cell? ⟨gb227, 9, none⟩ = some (.slice A1_9 l1_9.length c1_9) := (iE BK227.out 9).trans rfl
      have hfz24_0 := iC BK227.out 0
      have hfz24_1 := iC BK227.out 1
      have hfz24_2 := iC BK227.out 2
      have hfz24_3 := iC BK227.out 3
      have hfz24_4 := iC BK227.out 4
      have hfz24_5 := iC BK227.out 5
      have hfz24_6 := iC BK227.out 6
      have hfz24_7 := iC BK227.out 7
      have hfz24_8 := iC BK227.out 8
      have hfz24_9 := iC BK227.out 9
      go_wp2
      go_meet
      case rel => exact ⟨_, (false), (by first | rfl | (simp; done) | (simp [*]; done)), H', ⟨by first | omega | exact Nat.le_refl _⟩, ⟨bk_ BK226.out⟩, ⟨bk_ BK227.out⟩, ⟨by repeat (first | (with_reducible first | exact HB.out | apply iF | apply iG | apply iH | refine iI ?_ GE226.out | refine iI ?_ GE227.out) | exact HB.out)⟩⟩
  case rest =>
    clear HC3
    try clear c1
    try clear c2
    try clear p2
    try clear c6
    try clear c6b0
    try clear c6b1
    try clear c7
    try clear c7b0
    try clear c7b1
    try clear c8
    try clear c8b0
    try clear c8b1
    try clear c9
    try clear c9b0
    try clear c9b1
    try clear c10
    try clear c13
    try clear c16
    try clear c19
    try clear c22
    try clear c23
    try clear hcz11_0
    try clear hcz11_1
    try clear hcz11_2
    try clear hcz11_3
    try clear hcz11_4
    try clear hcz11_5
    try clear hcz11_6
    try clear hcz11_7
    try clear hcz11_8
    try clear hcz11_9
    try clear hcz12_0
    try clear hcz12_1
    try clear hcz12_2
    try clear hcz12_3
    try clear hcz12_4
    try clear hcz12_5
    try clear hcz12_6
    try clear hcz12_7
    try clear hcz12_8
    try clear hcz12_9
    try clear hcz14_0
    try clear hcz14_1
    try clear hcz14_2
    try clear hcz14_3
    try clear hcz14_4
    try clear hcz14_5
    try clear hcz14_6
    try clear hcz14_7
    try clear hcz14_8
    try clear hcz14_9
    try clear hcz15_0
    try clear hcz15_1
    try clear hcz15_2
    try clear hcz15_3
    try clear hcz15_4
    try clear hcz15_5
    try clear hcz15_6
    try clear hcz15_7
    try clear hcz15_8
    try clear hcz15_9
    try clear hcz17_0
    try clear hcz17_1
    try clear hcz17_2
    try clear hcz17_3
    try clear hcz17_4
    try clear hcz17_5
    try clear hcz17_6
    try clear hcz17_7
    try clear hcz17_8
    try clear hcz17_9
    try clear hcz18_0
    try clear hcz18_1
    try clear hcz18_2
    try clear hcz18_3
    try clear hcz18_4
    try clear hcz18_5
    try clear hcz18_6
    try clear hcz18_7
    try clear hcz18_8
    try clear hcz18_9
    try clear hcz20_0
    try clear hcz20_1
    try clear hcz20_2
    try clear hcz20_3
    try clear hcz20_4
    try clear hcz20_5
    try clear hcz20_6
    try clear hcz20_7
    try clear hcz20_8
    try clear hcz20_9
    try clear hcz21_0
    try clear hcz21_1
    try clear hcz21_2
    try clear hcz21_3
    try clear hcz21_4
    try clear hcz21_5
    try clear hcz21_6
    try clear hcz21_7
    try clear hcz21_8
    try clear hcz21_9
    try clear hcz23_0
    try clear hcz23_1
    try clear hcz23_2
    try clear hcz23_3
    try clear hcz23_4
    try clear hcz23_5
    try clear hcz23_6
    try clear hcz23_7
    try clear hcz23_8
    try clear hcz23_9
    try clear hcz24_0
    try clear hcz24_1
    try clear hcz24_2
    try clear hcz24_3
    try clear hcz24_4
    try clear hcz24_5
    try clear hcz24_6
    try clear hcz24_7
    try clear hcz24_8
    try clear hcz24_9
    try clear hfz11_0
    try clear hfz11_1
    try clear hfz11_2
    try clear hfz11_3
    try clear hfz11_4
    try clear hfz11_5
    try clear hfz11_6
    try clear hfz11_7
    try clear hfz11_8
    try clear hfz11_9
    try clear hfz12_0
    try clear hfz12_1
    try clear hfz12_2
    try clear hfz12_3
    try clear hfz12_4
    try clear hfz12_5
    try clear hfz12_6
    try clear hfz12_7
    try clear hfz12_8
    try clear hfz12_9
    try clear hfz14_0
    try clear hfz14_1
    try clear hfz14_2
    try clear hfz14_3
    try clear hfz14_4
    try clear hfz14_5
    try clear hfz14_6
    try clear hfz14_7
    try clear hfz14_8
    try clear hfz14_9
    try clear hfz15_0
    try clear hfz15_1
    try clear hfz15_2
    try clear hfz15_3
    try clear hfz15_4
    try clear hfz15_5
    try clear hfz15_6
    try clear hfz15_7
    try clear hfz15_8
    try clear hfz15_9
    try clear hfz17_0
    try clear hfz17_1
    try clear hfz17_2
    try clear hfz17_3
    try clear hfz17_4
    try clear hfz17_5
    try clear hfz17_6
    try clear hfz17_7
    try clear hfz17_8
    try clear hfz17_9
    try clear hfz18_0
    try clear hfz18_1
    try clear hfz18_2
    try clear hfz18_3
    try clear hfz18_4
    try clear hfz18_5
    try clear hfz18_6
    try clear hfz18_7
    try clear hfz18_8
    try clear hfz18_9
    try clear hfz20_0
    try clear hfz20_1
    try clear hfz20_2
    try clear hfz20_3
    try clear hfz20_4
    try clear hfz20_5
    try clear hfz20_6
    try clear hfz20_7
    try clear hfz20_8
    try clear hfz20_9
    try clear hfz21_0
    try clear hfz21_1
    try clear hfz21_2
    try clear hfz21_3
    try clear hfz21_4
    try clear hfz21_5
    try clear hfz21_6
    try clear hfz21_7
    try clear hfz21_8
    try clear hfz21_9
    try clear hfz23_0
    try clear hfz23_1
    try clear hfz23_2
    try clear hfz23_3
    try clear hfz23_4
    try clear hfz23_5
    try clear hfz23_6
    try clear hfz23_7
    try clear hfz23_8
    try clear hfz23_9
    try clear hfz24_0
    try clear hfz24_1
    try clear hfz24_2
    try clear hfz24_3
    try clear hfz24_4
    try clear hfz24_5
    try clear hfz24_6
    try clear hfz24_7
    try clear hfz24_8
    try clear hfz24_9
    obtain ⟨kq, x5_2, rfl, HA, HJ2, BK226, BK227, HB⟩ := hcut
    cases kq with
    | zero => exact absurd HA.out (by simp [stratumref07_Same.j0])
    | succ kj2 =>
      have H := HA.out
      clear HA
      simp only [stratumref07_Same.j0] at H
      by_cases c25 : x5_2 = true
      · subst c25
        have H1 : ((stratumref07_SameInts.f kj2 l0_3 l1_3).bind fun t228 => (if t228 = true then ((stratumref07_SameFacts.f kj2 l0_4 l1_4).bind fun t229 => (if t229 = true then ((stratumref07_SameMap.f kj2 a0_5 l0_6 a1_5 l1_6).bind fun t230 => (if t230 = true then ((stratumref07_SameEntries.f l0_9 l1_9).bind fun t231 => (some t231)) else (some false))) else (some false))) else (some false))) = some r := by rw [if_pos rfl] at H; exact H
        clear H
        have H := H1
        clear H1
        replace H := Option.bind_eq_some_iff.mp H
        obtain ⟨t228, A260, H⟩ := H
        replace H : (if t228 = true then ((stratumref07_SameFacts.f kj2 l0_4 l1_4).bind fun t229 => (if t229 = true then ((stratumref07_SameMap.f kj2 a0_5 l0_6 a1_5 l1_6).bind fun t230 => (if t230 = true then ((stratumref07_SameEntries.f l0_9 l1_9).bind fun t231 => (some t231)) else (some false))) else (some false))) else (some false)) = some r := H
        have A26 := iD.mk A260
        clear A260
        by_cases c27 : t228 = true
        · subst c27
          have H1 : ((stratumref07_SameFacts.f kj2 l0_4 l1_4).bind fun t229 => (if t229 = true then ((stratumref07_SameMap.f kj2 a0_5 l0_6 a1_5 l1_6).bind fun t230 => (if t230 = true then ((stratumref07_SameEntries.f l0_9 l1_9).bind fun t231 => (some t231)) else (some false))) else (some false))) = some r := by rw [if_pos rfl] at H; exact H
          clear H
          have H := H1
          clear H1
          replace H := Option.bind_eq_some_iff.mp H
          obtain ⟨t229, A280, H⟩ := H
          replace H : (if t229 = true then ((stratumref07_SameMap.f kj2 a0_5 l0_6 a1_5 l1_6).bind fun t230 => (if t230 = true then ((stratumref07_SameEntries.f l0_9 l1_9).bind fun t231 => (some t231)) else (some false))) else (some false)) = some r := H
          have A28 := iD.mk A280
          clear A280
          by_cases c29 : t229 = true
          · subst c29
            have H1 : ((stratumref07_SameMap.f kj2 a0_5 l0_6 a1_5 l1_6).bind fun t230 => (if t230 = true then ((stratumref07_SameEntries.f l0_9 l1_9).bind fun t231 => (some t231)) else (some false))) = some r := by rw [if_pos rfl] at H; exact H
            clear H
            have H := H1
            clear H1
            replace H := Option.bind_eq_some_iff.mp H
            obtain ⟨t230, A300, H⟩ := H
            replace H : (if t230 = true then ((stratumref07_SameEntries.f l0_9 l1_9).bind fun t231 => (some t231)) else (some false)) = some r := H
            have A30 := iD.mk A300
            clear A300
            by_cases c31 : t230 = true
            · subst c31
              have H1 : ((stratumref07_SameEntries.f l0_9 l1_9).bind fun t231 => (some t231)) = some r := by rw [if_pos rfl] at H; exact H
              clear H
              have H := H1
              clear H1
              replace H := Option.bind_eq_some_iff.mp H
              obtain ⟨t231, A320, H⟩ := H
              replace H : (some t231) = some r := H
              have A32 := iD.mk A320
              clear A320
              obtain rfl := Option.some.inj H
              have hnb33 := NB226_227.out
              have hnc33 := NB227_226.out
              have hcz34_0 : wc.cell? ⟨gb226, 0, none⟩ = some (.int .u8 a0_0) := (iE BK226.out 0).trans rfl
              have hcz34_1 : wc.cell? ⟨gb226, 1, none⟩ = some (.int .u32 a0_1) := (iE BK226.out 1).trans rfl
              have hcz34_2 : wc.cell? ⟨gb226, 2, none⟩ = some (.int .u32 a0_2) := (iE BK226.out 2).trans rfl
              have hcz34_3 : wc.cell? ⟨gb226, 3, none⟩ = some (.slice A0_3 l0_3.length c0_3) := (iE BK226.out 3).trans rfl
              have hcz34_4 : wc.cell? ⟨gb226, 4, none⟩ = some (.slice A0_4 l0_4.length c0_4) := (iE BK226.out 4).trans rfl
              have hcz34_5 : wc.cell? ⟨gb226, 5, none⟩ = some (.int .u32 a0_5) := (iE BK226.out 5).trans rfl
              have hcz34_6 : wc.cell? ⟨gb226, 6, none⟩ = some (.slice A0_6 l0_6.length c0_6) := (iE BK226.out 6).trans rfl
              have hcz34_7 : wc.cell? ⟨gb226, 7, none⟩ = some (.int .i64 a0_7) := (iE BK226.out 7).trans rfl
              have hcz34_8 : wc.cell? ⟨gb226, 8, none⟩ = some (.int .i64 a0_8) := (iE BK226.out 8).trans rfl
              have hcz34_9 : wc.cell? ⟨gb226, 9, none⟩ = some (.slice A0_9 l0_9.length c0_9) := (iE BK226.out 9).trans rfl
              have hfz34_0 := iC BK226.out 0
              have hfz34_1 := iC BK226.out 1
              have hfz34_2 := iC BK226.out 2
              have hfz34_3 := iC BK226.out 3
              have hfz34_4 := iC BK226.out 4
              have hfz34_5 := iC BK226.out 5
              have hfz34_6 := iC BK226.out 6
              have hfz34_7 := iC BK226.out 7
              have hfz34_8 := iC BK226.out 8
              have hfz34_9 := iC BK226.out 9
              have hcz35_0 : wc.cell? ⟨gb227, 0, none⟩ = some (.int .u8 a1_0) := (iE BK227.out 0).trans rfl
              have hcz35_1 : wc.cell? ⟨gb227, 1, none⟩ = some (.int .u32 a1_1) := (iE BK227.out 1).trans rfl
              have hcz35_2 : wc.cell? ⟨gb227, 2, none⟩ = some (.int .u32 a1_2) := (iE BK227.out 2).trans rfl
              have hcz35_3 : wc.cell? ⟨gb227, 3, none⟩ = some (.slice A1_3 l1_3.length c1_3) := (iE BK227.out 3).trans rfl
              have hcz35_4 : wc.cell? ⟨gb227, 4, none⟩ = some (.slice A1_4 l1_4.length c1_4) := (iE BK227.out 4).trans rfl
              have hcz35_5 : wc.cell? ⟨gb227, 5, none⟩ = some (.int .u32 a1_5) := (iE BK227.out 5).trans rfl
              have hcz35_6 : wc.cell? ⟨gb227, 6, none⟩ = some (.slice A1_6 l1_6.length c1_6) := (iE BK227.out 6).trans rfl
              have hcz35_7 : wc.cell? ⟨gb227, 7, none⟩ = some (.int .i64 a1_7) := (iE BK227.out 7).trans rfl
              have hcz35_8 : wc.cell? ⟨gb227, 8, none⟩ = some (.int .i64 a1_8) := (iE BK227.out 8).trans rfl
              have hcz35_9 : wc.cell? ⟨gb227, 9, none⟩ = some (.slice A1_9 l1_9.length c1_9) := (iE BK227.out 9).trans rfl
              have hfz35_0 := iC BK227.out 0
              have hfz35_1 := iC BK227.out 1
              have hfz35_2 := iC BK227.out 2
              have hfz35_3 := iC BK227.out 3
              have hfz35_4 := iC BK227.out 4
              have hfz35_5 := iC BK227.out 5
              have hfz35_6 := iC BK227.out 6
              have hfz35_7 := iC BK227.out 7
              have hfz35_8 := iC BK227.out 8
              have hfz35_9 := iC BK227.out 9
              go_wp2_with (first | (go_at_call 35; (with_reducible refine (stratumref07_SameInts.calls kj2 _ _ l0_3 _ _ l1_3 true _ ?side1 ?side2 ?side3 ?side4 A26.out).mono ?_); (case side1 => repeat (first | exact (Kd.C_below HR0_3.out HB.out) | (with_reducible refine Kd.C_alloc ?_ _) | (with_reducible refine Kd.C_drewN ?_ _) | (with_reducible refine Kd.C_drew ?_))); (case side2 => exact HC0_3.out); (case side3 => repeat (first | exact (Kd.C_below HR1_3.out HB.out) | (with_reducible refine Kd.C_alloc ?_ _) | (with_reducible refine Kd.C_drewN ?_ _) | (with_reducible refine Kd.C_drew ?_))); (case side4 => exact HC1_3.out); rintro e w' ⟨rfl, ⟨nd, rfl⟩⟩) | (go_at_call 76; (with_reducible refine (stratumref07_SameFacts.calls kj2 _ _ l0_4 _ _ l1_4 true _ ?side1 ?side2 ?side3 ?side4 A28.out).mono ?_); (case side1 => repeat (first | exact (Kd.C_below HR0_4.out (by repeat (first | (with_reducible first | exact HB.out | apply iF | apply iG | apply iH | refine iI ?_ GE226.out | refine iI ?_ GE227.out) | exact HB.out))) | (with_reducible refine Kd.C_alloc ?_ _) | (with_reducible refine Kd.C_drewN ?_ _) | (with_reducible refine Kd.C_drew ?_))); (case side2 => exact HC0_4.out); (case side3 => repeat (first | exact (Kd.C_below HR1_4.out (by repeat (first | (with_reducible first | exact HB.out | apply iF | apply iG | apply iH | refine iI ?_ GE226.out | refine iI ?_ GE227.out) | exact HB.out))) | (with_reducible refine Kd.C_alloc ?_ _) | (with_reducible refine Kd.C_drewN ?_ _) | (with_reducible refine Kd.C_drew ?_))); (case side4 => exact HC1_4.out); rintro e w36 ⟨rfl, hb⟩; have n0_ := iD.mk (jJ (g := gb226) (o := .cells #[.int .u8 a0_0, .int .u32 a0_1, .int .u32 a0_2, .slice A0_3 l0_3.length c0_3, .slice A0_4 l0_4.length c0_4, .int .u32 a0_5, .slice A0_6 l0_6.length c0_6, .int .i64 a0_7, .int .i64 a0_8, .slice A0_9 l0_9.length c0_9] 30 (0, 0)) (bk_ BK226.out) hb); have n1_ := iD.mk (jJ (g := gb227) (o := .cells #[.int .u8 a1_0, .int .u32 a1_1, .int .u32 a1_2, .slice A1_3 l1_3.length c1_3, .slice A1_4 l1_4.length c1_4, .int .u32 a1_5, .slice A1_6 l1_6.length c1_6, .int .i64 a1_7, .int .i64 a1_8, .slice A1_9 l1_9.length c1_9] 30 (0, 0)) (bk_ BK227.out) hb); have n2_ := iD.mk (iL (by repeat (first | (with_reducible first | exact HB.out | apply iF | apply iG | apply iH | refine iI ?_ GE226.out | refine iI ?_ GE227.out) | exact HB.out)) hb); clear BK226; clear BK227; clear HB; have BK226 := n0_; have BK227 := n1_; have HB := n2_; clear n0_ n1_ n2_; (try clear hb); (try clear hb2); (try clear hk); (try clear hi); have hcz37_0 : w36.cell? ⟨gb226, 0, none⟩ = some (.int .u8 a0_0) := (iE BK226.out 0).trans rfl; have hcz37_1 : w36.cell? ⟨gb226, 1, none⟩ = some (.int .u32 a0_1) := (iE BK226.out 1).trans rfl; have hcz37_2 : w36.cell? ⟨gb226, 2, none⟩ = some (.int .u32 a0_2) := (iE BK226.out 2).trans rfl; have hcz37_3 : w36.cell? ⟨gb226, 3, none⟩ = some (.slice A0_3 l0_3.length c0_3) := (iE BK226.out 3).trans rfl; have hcz37_4 : w36.cell? ⟨gb226, 4, none⟩ = some (.slice A0_4 l0_4.length c0_4) := (iE BK226.out 4).trans rfl; have hcz37_5 : w36.cell? ⟨gb226, 5, none⟩ = some (.int .u32 a0_5) := (iE BK226.out 5).trans rfl; have hcz37_6 : w36.cell? ⟨gb226, 6, none⟩ = some (.slice A0_6 l0_6.length c0_6) := (iE BK226.out 6).trans rfl; have hcz37_7 : w36.cell? ⟨gb226, 7, none⟩ = some (.int .i64 a0_7) := (iE BK226.out 7).trans rfl; have hcz37_8 : w36.cell? ⟨gb226, 8, none⟩ = some (.int .i64 a0_8) := (iE BK226.out 8).trans rfl; have hcz37_9 : w36.cell? ⟨gb226, 9, none⟩ = some (.slice A0_9 l0_9.length c0_9) := (iE BK226.out 9).trans rfl; have hfz37_0 := iC BK226.out 0; have hfz37_1 := iC BK226.out 1; have hfz37_2 := iC BK226.out 2; have hfz37_3 := iC BK226.out 3; have hfz37_4 := iC BK226.out 4; have hfz37_5 := iC BK226.out 5; have hfz37_6 := iC BK226.out 6; have hfz37_7 := iC BK226.out 7; have hfz37_8 := iC BK226.out 8; have hfz37_9 := iC BK226.out 9; have hcz38_0 : w36.cell? ⟨gb227, 0, none⟩ = some (.int .u8 a1_0) := (iE BK227.out 0).trans rfl; have hcz38_1 : w36.cell? ⟨gb227, 1, none⟩ = some (.int .u32 a1_1) := (iE BK227.out 1).trans rfl; have hcz38_2 : w36.cell? ⟨gb227, 2, none⟩ = some (.int .u32 a1_2) := (iE BK227.out 2).trans rfl; have hcz38_3 : w36.cell? ⟨gb227, 3, none⟩ = some (.slice A1_3 l1_3.length c1_3) := (iE BK227.out 3).trans rfl; have hcz38_4 : w36.cell? ⟨gb227, 4, none⟩ = some (.slice A1_4 l1_4.length c1_4) := (iE BK227.out 4).trans rfl; have hcz38_5 : w36.cell? ⟨gb227, 5, none⟩ = some (.int .u32 a1_5) := (iE BK227.out 5).trans rfl; have hcz38_6 : w36.cell? ⟨gb227, 6, none⟩ = some (.slice A1_6 l1_6.length c1_6) := (iE BK227.out 6).trans rfl; have hcz38_7 : w36.cell? ⟨gb227, 7, none⟩ = some (.int .i64 a1_7) := (iE BK227.out 7).trans rfl; have hcz38_8 : w36.cell? ⟨gb227, 8, none⟩ = some (.int .i64 a1_8) := (iE BK227.out 8).trans rfl; have hcz38_9 : w36.cell? ⟨gb227, 9, none⟩ = some (.slice A1_9 l1_9.length c1_9) := (iE BK227.out 9).trans rfl; have hfz38_0 := iC BK227.out 0; have hfz38_1 := iC BK227.out 1; have hfz38_2 := iC BK227.out 2; have hfz38_3 := iC BK227.out 3; have hfz38_4 := iC BK227.out 4; have hfz38_5 := iC BK227.out 5; have hfz38_6 := iC BK227.out 6; have hfz38_7 := iC BK227.out 7; have hfz38_8 := iC BK227.out 8; have hfz38_9 := iC BK227.out 9) | (go_at_call 77; (with_reducible refine (stratumref07_SameMap.calls kj2 a0_5 _ _ l0_6 a1_5 _ _ l1_6 true _ ?side1 ?side2 ?side3 ?side4 A30.out).mono ?_); (case side1 => repeat (first | exact (Kd.C_below HR0_6.out HB.out) | (with_reducible refine Kd.C_alloc ?_ _) | (with_reducible refine Kd.C_drewN ?_ _) | (with_reducible refine Kd.C_drew ?_))); (case side2 => exact HC0_6.out); (case side3 => repeat (first | exact (Kd.C_below HR1_6.out HB.out) | (with_reducible refine Kd.C_alloc ?_ _) | (with_reducible refine Kd.C_drewN ?_ _) | (with_reducible refine Kd.C_drew ?_))); (case side4 => exact HC1_6.out); rintro e w39 ⟨rfl, hb⟩; have n0_ := iD.mk (jJ (g := gb226) (o := .cells #[.int .u8 a0_0, .int .u32 a0_1, .int .u32 a0_2, .slice A0_3 l0_3.length c0_3, .slice A0_4 l0_4.length c0_4, .int .u32 a0_5, .slice A0_6 l0_6.length c0_6, .int .i64 a0_7, .int .i64 a0_8, .slice A0_9 l0_9.length c0_9] 30 (0, 0)) (bk_ BK226.out) hb); have n1_ := iD.mk (jJ (g := gb227) (o := .cells #[.int .u8 a1_0, .int .u32 a1_1, .int .u32 a1_2, .slice A1_3 l1_3.length c1_3, .slice A1_4 l1_4.length c1_4, .int .u32 a1_5, .slice A1_6 l1_6.length c1_6, .int .i64 a1_7, .int .i64 a1_8, .slice A1_9 l1_9.length c1_9] 30 (0, 0)) (bk_ BK227.out) hb); have n2_ := iD.mk (iL (by repeat (first | (with_reducible first | exact HB.out | apply iF | apply iG | apply iH | refine iI ?_ GE226.out | refine iI ?_ GE227.out) | exact HB.out)) hb); clear BK226; clear BK227; clear HB; have BK226 := n0_; have BK227 := n1_; have HB := n2_; clear n0_ n1_ n2_; (try clear hb); (try clear hb2); (try clear hk); (try clear hi); have hcz40_0 : w39.cell? ⟨gb226, 0, none⟩ = some (.int .u8 a0_0) := (iE BK226.out 0).trans rfl; have hcz40_1 : w39.cell? ⟨gb226, 1, none⟩ = some (.int .u32 a0_1) := (iE BK226.out 1).trans rfl; have hcz40_2 : w39.cell? ⟨gb226, 2, none⟩ = some (.int .u32 a0_2) := (iE BK226.out 2).trans rfl; have hcz40_3 : w39.cell? ⟨gb226, 3, none⟩ = some (.slice A0_3 l0_3.length c0_3) := (iE BK226.out 3).trans rfl; have hcz40_4 : w39.cell? ⟨gb226, 4, none⟩ = some (.slice A0_4 l0_4.length c0_4) := (iE BK226.out 4).trans rfl; have hcz40_5 : w39.cell? ⟨gb226, 5, none⟩ = some (.int .u32 a0_5) := (iE BK226.out 5).trans rfl; have hcz40_6 : w39.cell? ⟨gb226, 6, none⟩ = some (.slice A0_6 l0_6.length c0_6) := (iE BK226.out 6).trans rfl; have hcz40_7 : w39.cell? ⟨gb226, 7, none⟩ = some (.int .i64 a0_7) := (iE BK226.out 7).trans rfl; have hcz40_8 : w39.cell? ⟨gb226, 8, none⟩ = some (.int .i64 a0_8) := (iE BK226.out 8).trans rfl; have hcz40_9 : w39.cell? ⟨gb226, 9, none⟩ = some (.slice A0_9 l0_9.length c0_9) := (iE BK226.out 9).trans rfl; have hfz40_0 := iC BK226.out 0; have hfz40_1 := iC BK226.out 1; have hfz40_2 := iC BK226.out 2; have hfz40_3 := iC BK226.out 3; have hfz40_4 := iC BK226.out 4; have hfz40_5 := iC BK226.out 5; have hfz40_6 := iC BK226.out 6; have hfz40_7 := iC BK226.out 7; have hfz40_8 := iC BK226.out 8; have hfz40_9 := iC BK226.out 9; have hcz41_0 : w39.cell? ⟨gb227, 0, none⟩ = some (.int .u8 a1_0) := (iE BK227.out 0).trans rfl; have hcz41_1 : w39.cell? ⟨gb227, 1, none⟩ = some (.int .u32 a1_1) := (iE BK227.out 1).trans rfl; have hcz41_2 : w39.cell? ⟨gb227, 2, none⟩ = some (.int .u32 a1_2) := (iE BK227.out 2).trans rfl; have hcz41_3 : w39.cell? ⟨gb227, 3, none⟩ = some (.slice A1_3 l1_3.length c1_3) := (iE BK227.out 3).trans rfl; have hcz41_4 : w39.cell? ⟨gb227, 4, none⟩ = some (.slice A1_4 l1_4.length c1_4) := (iE BK227.out 4).trans rfl; have hcz41_5 : w39.cell? ⟨gb227, 5, none⟩ = some (.int .u32 a1_5) := (iE BK227.out 5).trans rfl; have hcz41_6 : w39.cell? ⟨gb227, 6, none⟩ = some (.slice A1_6 l1_6.length c1_6) := (iE BK227.out 6).trans rfl; have hcz41_7 : w39.cell? ⟨gb227, 7, none⟩ = some (.int .i64 a1_7) := (iE BK227.out 7).trans rfl; have hcz41_8 : w39.cell? ⟨gb227, 8, none⟩ = some (.int .i64 a1_8) := (iE BK227.out 8).trans rfl; have hcz41_9 : w39.cell? ⟨gb227, 9, none⟩ = some (.slice A1_9 l1_9.length c1_9) := (iE BK227.out 9).trans rfl; have hfz41_0 := iC BK227.out 0; have hfz41_1 := iC BK227.out 1; have hfz41_2 := iC BK227.out 2; have hfz41_3 := iC BK227.out 3; have hfz41_4 := iC BK227.out 4; have hfz41_5 := iC BK227.out 5; have hfz41_6 := iC BK227.out 6; have hfz41_7 := iC BK227.out 7; have hfz41_8 := iC BK227.out 8; have hfz41_9 := iC BK227.out 9) | (go_at_call 78; (with_reducible refine (stratumref07_SameEntries.calls _ _ l0_9 _ _ l1_9 t231 _ ?side1 ?side2 ?side3 ?side4 A32.out).mono ?_); (case side1 => repeat (first | exact (Kd.C_below HR0_9.out HB.out) | (with_reducible refine Kd.C_alloc ?_ _) | (with_reducible refine Kd.C_drewN ?_ _) | (with_reducible refine Kd.C_drew ?_))); (case side2 => exact HC0_9.out); (case side3 => repeat (first | exact (Kd.C_below HR1_9.out HB.out) | (with_reducible refine Kd.C_alloc ?_ _) | (with_reducible refine Kd.C_drewN ?_ _) | (with_reducible refine Kd.C_drew ?_))); (case side4 => exact HC1_9.out); rintro e w42 ⟨rfl, hb⟩; have n0_ := iD.mk (jJ (g := gb226) (o := .cells #[.int .u8 a0_0, .int .u32 a0_1, .int .u32 a0_2, .slice A0_3 l0_3.length c0_3, .slice A0_4 l0_4.length c0_4, .int .u32 a0_5, .slice A0_6 l0_6.length c0_6, .int .i64 a0_7, .int .i64 a0_8, .slice A0_9 l0_9.length c0_9] 30 (0, 0)) (bk_ BK226.out) hb); have n1_ := iD.mk (jJ (g := gb227) (o := .cells #[.int .u8 a1_0, .int .u32 a1_1, .int .u32 a1_2, .slice A1_3 l1_3.length c1_3, .slice A1_4 l1_4.length c1_4, .int .u32 a1_5, .slice A1_6 l1_6.length c1_6, .int .i64 a1_7, .int .i64 a1_8, .slice A1_9 l1_9.length c1_9] 30 (0, 0)) (bk_ BK227.out) hb); have n2_ := iD.mk (iL (by repeat (first | (with_reducible first | exact HB.out | apply iF | apply iG | apply iH | refine iI ?_ GE226.out | refine iI ?_ GE227.out) | exact HB.out)) hb); clear BK226; clear BK227; clear HB; have BK226 := n0_; have BK227 := n1_; have HB := n2_; clear n0_ n1_ n2_; (try clear hb); (try clear hb2); (try clear hk); (try clear hi)))
              go_ret
              exact ⟨by first | rfl | (simp [iQ, iR] <;> rfl) | (simp [*, iQ, iR] <;> rfl), by repeat (first | (with_reducible first | exact HB.out | apply iF | apply iG | apply iH | refine iI ?_ GE226.out | refine iI ?_ GE227.out) | exact HB.out)⟩
            · replace c31 := Bool.eq_false_iff.mpr c31
              subst c31
              have H1 : (some false) = some r := by rw [if_neg (show ¬ (false = true) by decide)] at H; exact H
              clear H
              have H := H1
              clear H1
              obtain rfl := Option.some.inj H
              have hnb43 := NB226_227.out
              have hnc43 := NB227_226.out
              have hcz44_0 : wc.cell? ⟨gb226, 0, none⟩ = some (.int .u8 a0_0) := (iE BK226.out 0).trans rfl
              have hcz44_1 : wc.cell? ⟨gb226, 1, none⟩ = some (.int .u32 a0_1) := (iE BK226.out 1).trans rfl
              have hcz44_2 : wc.cell? ⟨gb226, 2, none⟩ = some (.int .u32 a0_2) := (iE BK226.out 2).trans rfl
              have hcz44_3 : wc.cell? ⟨gb226, 3, none⟩ = some (.slice A0_3 l0_3.length c0_3) := (iE BK226.out 3).trans rfl
              have hcz44_4 : wc.cell? ⟨gb226, 4, none⟩ = some (.slice A0_4 l0_4.length c0_4) := (iE BK226.out 4).trans rfl
              have hcz44_5 : wc.cell? ⟨gb226, 5, none⟩ = some (.int .u32 a0_5) := (iE BK226.out 5).trans rfl
              have hcz44_6 : wc.cell? ⟨gb226, 6, none⟩ = some (.slice A0_6 l0_6.length c0_6) := (iE BK226.out 6).trans rfl
              have hcz44_7 : wc.cell? ⟨gb226, 7, none⟩ = some (.int .i64 a0_7) := (iE BK226.out 7).trans rfl
              have hcz44_8 : wc.cell? ⟨gb226, 8, none⟩ = some (.int .i64 a0_8) := (iE BK226.out 8).trans rfl
              have hcz44_9 : wc.cell? ⟨gb226, 9, none⟩ = some (.slice A0_9 l0_9.length c0_9) := (iE BK226.out 9).trans rfl
              have hfz44_0 := iC BK226.out 0
              have hfz44_1 := iC BK226.out 1
              have hfz44_2 := iC BK226.out 2
              have hfz44_3 := iC BK226.out 3
              have hfz44_4 := iC BK226.out 4
              have hfz44_5 := iC BK226.out 5
              have hfz44_6 := iC BK226.out 6
              have hfz44_7 := iC BK226.out 7
              have hfz44_8 := iC BK226.out 8
              have hfz44_9 := iC BK226.out 9
              have hcz45_0 : wc.cell? ⟨gb227, 0, none⟩ = some (.int .u8 a1_0) := (iE BK227.out 0).trans rfl
              have hcz45_1 : wc.cell? ⟨gb227, 1, none⟩ = some (.int .u32 a1_1) := (iE BK227.out 1).trans rfl
              have hcz45_2 : wc.cell? ⟨gb227, 2, none⟩ = some (.int .u32 a1_2) := (iE BK227.out 2).trans rfl
              have hcz45_3 : wc.cell? ⟨gb227, 3, none⟩ = some (.slice A1_3 l1_3.length c1_3) := (iE BK227.out 3).trans rfl
              have hcz45_4 : wc.cell? ⟨gb227, 4, none⟩ = some (.slice A1_4 l1_4.length c1_4) := (iE BK227.out 4).trans rfl
              have hcz45_5 : wc.cell? ⟨gb227, 5, none⟩ = some (.int .u32 a1_5) := (iE BK227.out 5).trans rfl
              have hcz45_6 : wc.cell? ⟨gb227, 6, none⟩ = some (.slice A1_6 l1_6.length c1_6) := (iE BK227.out 6).trans rfl
              have hcz45_7 : wc.cell? ⟨gb227, 7, none⟩ = some (.int .i64 a1_7) := (iE BK227.out 7).trans rfl
              have hcz45_8 : wc.cell? ⟨gb227, 8, none⟩ = some (.int .i64 a1_8) := (iE BK227.out 8).trans rfl
              have hcz45_9 : wc.cell? ⟨gb227, 9, none⟩ = some (.slice A1_9 l1_9.length c1_9) := (iE BK227.out 9).trans rfl
              have hfz45_0 := iC BK227.out 0
              have hfz45_1 := iC BK227.out 1
              have hfz45_2 := iC BK227.out 2
              have hfz45_3 := iC BK227.out 3
              have hfz45_4 := iC BK227.out 4
              have hfz45_5 := iC BK227.out 5
              have hfz45_6 := iC BK227.out 6
              have hfz45_7 := iC BK227.out 7
              have hfz45_8 := iC BK227.out 8
              have hfz45_9 := iC BK227.out 9
              go_wp2_with (first | (go_at_call 35; (with_reducible refine (stratumref07_SameInts.calls kj2 _ _ l0_3 _ _ l1_3 true _ ?side1 ?side2 ?side3 ?side4 A26.out).mono ?_); (case side1 => repeat (first | exact (Kd.C_below HR0_3.out HB.out) | (with_reducible refine Kd.C_alloc ?_ _) | (with_reducible refine Kd.C_drewN ?_ _) | (with_reducible refine Kd.C_drew ?_))); (case side2 => exact HC0_3.out); (case side3 => repeat (first | exact (Kd.C_below HR1_3.out HB.out) | (with_reducible refine Kd.C_alloc ?_ _) | (with_reducible refine Kd.C_drewN ?_ _) | (with_reducible refine Kd.C_drew ?_))); (case side4 => exact HC1_3.out); rintro e w' ⟨rfl, ⟨nd, rfl⟩⟩) | (go_at_call 76; (with_reducible refine (stratumref07_SameFacts.calls kj2 _ _ l0_4 _ _ l1_4 true _ ?side1 ?side2 ?side3 ?side4 A28.out).mono ?_); (case side1 => repeat (first | exact (Kd.C_below HR0_4.out (by repeat (first | (with_reducible first | exact HB.out | apply iF | apply iG | apply iH | refine iI ?_ GE226.out | refine iI ?_ GE227.out) | exact HB.out))) | (with_reducible refine Kd.C_alloc ?_ _) | (with_reducible refine Kd.C_drewN ?_ _) | (with_reducible refine Kd.C_drew ?_))); (case side2 => exact HC0_4.out); (case side3 => repeat (first | exact (Kd.C_below HR1_4.out (by repeat (first | (with_reducible first | exact HB.out | apply iF | apply iG | apply iH | refine iI ?_ GE226.out | refine iI ?_ GE227.out) | exact HB.out))) | (with_reducible refine Kd.C_alloc ?_ _) | (with_reducible refine Kd.C_drewN ?_ _) | (with_reducible refine Kd.C_drew ?_))); (case side4 => exact HC1_4.out); rintro e w46 ⟨rfl, hb⟩; have n0_ := iD.mk (jJ (g := gb226) (o := .cells #[.int .u8 a0_0, .int .u32 a0_1, .int .u32 a0_2, .slice A0_3 l0_3.length c0_3, .slice A0_4 l0_4.length c0_4, .int .u32 a0_5, .slice A0_6 l0_6.length c0_6, .int .i64 a0_7, .int .i64 a0_8, .slice A0_9 l0_9.length c0_9] 30 (0, 0)) (bk_ BK226.out) hb); have n1_ := iD.mk (jJ (g := gb227) (o := .cells #[.int .u8 a1_0, .int .u32 a1_1, .int .u32 a1_2, .slice A1_3 l1_3.length c1_3, .slice A1_4 l1_4.length c1_4, .int .u32 a1_5, .slice A1_6 l1_6.length c1_6, .int .i64 a1_7, .int .i64 a1_8, .slice A1_9 l1_9.length c1_9] 30 (0, 0)) (bk_ BK227.out) hb); have n2_ := iD.mk (iL (by repeat (first | (with_reducible first | exact HB.out | apply iF | apply iG | apply iH | refine iI ?_ GE226.out | refine iI ?_ GE227.out) | exact HB.out)) hb); clear BK226; clear BK227; clear HB; have BK226 := n0_; have BK227 := n1_; have HB := n2_; clear n0_ n1_ n2_; (try clear hb); (try clear hb2); (try clear hk); (try clear hi); have hcz47_0 : w46.cell? ⟨gb226, 0, none⟩ = some (.int .u8 a0_0) := (iE BK226.out 0).trans rfl; have hcz47_1 : w46.cell? ⟨gb226, 1, none⟩ = some (.int .u32 a0_1) := (iE BK226.out 1).trans rfl; have hcz47_2 : w46.cell? ⟨gb226, 2, none⟩ = some (.int .u32 a0_2) := (iE BK226.out 2).trans rfl; have hcz47_3 : w46.cell? ⟨gb226, 3, none⟩ = some (.slice A0_3 l0_3.length c0_3) := (iE BK226.out 3).trans rfl; have hcz47_4 : w46.cell? ⟨gb226, 4, none⟩ = some (.slice A0_4 l0_4.length c0_4) := (iE BK226.out 4).trans rfl; have hcz47_5 : w46.cell? ⟨gb226, 5, none⟩ = some (.int .u32 a0_5) := (iE BK226.out 5).trans rfl; have hcz47_6 : w46.cell? ⟨gb226, 6, none⟩ = some (.slice A0_6 l0_6.length c0_6) := (iE BK226.out 6).trans rfl; have hcz47_7 : w46.cell? ⟨gb226, 7, none⟩ = some (.int .i64 a0_7) := (iE BK226.out 7).trans rfl; have hcz47_8 : w46.cell? ⟨gb226, 8, none⟩ = some (.int .i64 a0_8) := (iE BK226.out 8).trans rfl; have hcz47_9 : w46.cell? ⟨gb226, 9, none⟩ = some (.slice A0_9 l0_9.length c0_9) := (iE BK226.out 9).trans rfl; have hfz47_0 := iC BK226.out 0; have hfz47_1 := iC BK226.out 1; have hfz47_2 := iC BK226.out 2; have hfz47_3 := iC BK226.out 3; have hfz47_4 := iC BK226.out 4; have hfz47_5 := iC BK226.out 5; have hfz47_6 := iC BK226.out 6; have hfz47_7 := iC BK226.out 7; have hfz47_8 := iC BK226.out 8; have hfz47_9 := iC BK226.out 9; have hcz48_0 : w46.cell? ⟨gb227, 0, none⟩ = some (.int .u8 a1_0) := (iE BK227.out 0).trans rfl; have hcz48_1 : w46.cell? ⟨gb227, 1, none⟩ = some (.int .u32 a1_1) := (iE BK227.out 1).trans rfl; have hcz48_2 : w46.cell? ⟨gb227, 2, none⟩ = some (.int .u32 a1_2) := (iE BK227.out 2).trans rfl; have hcz48_3 : w46.cell? ⟨gb227, 3, none⟩ = some (.slice A1_3 l1_3.length c1_3) := (iE BK227.out 3).trans rfl; have hcz48_4 : w46.cell? ⟨gb227, 4, none⟩ = some (.slice A1_4 l1_4.length c1_4) := (iE BK227.out 4).trans rfl; have hcz48_5 : w46.cell? ⟨gb227, 5, none⟩ = some (.int .u32 a1_5) := (iE BK227.out 5).trans rfl; have hcz48_6 : w46.cell? ⟨gb227, 6, none⟩ = some (.slice A1_6 l1_6.length c1_6) := (iE BK227.out 6).trans rfl; have hcz48_7 : w46.cell? ⟨gb227, 7, none⟩ = some (.int .i64 a1_7) := (iE BK227.out 7).trans rfl; have hcz48_8 : w46.cell? ⟨gb227, 8, none⟩ = some (.int .i64 a1_8) := (iE BK227.out 8).trans rfl; have hcz48_9 : w46.cell? ⟨gb227, 9, none⟩ = some (.slice A1_9 l1_9.length c1_9) := (iE BK227.out 9).trans rfl; have hfz48_0 := iC BK227.out 0; have hfz48_1 := iC BK227.out 1; have hfz48_2 := iC BK227.out 2; have hfz48_3 := iC BK227.out 3; have hfz48_4 := iC BK227.out 4; have hfz48_5 := iC BK227.out 5; have hfz48_6 := iC BK227.out 6; have hfz48_7 := iC BK227.out 7; have hfz48_8 := iC BK227.out 8; have hfz48_9 := iC BK227.out 9) | (go_at_call 77; (with_reducible refine (stratumref07_SameMap.calls kj2 a0_5 _ _ l0_6 a1_5 _ _ l1_6 false _ ?side1 ?side2 ?side3 ?side4 A30.out).mono ?_); (case side1 => repeat (first | exact (Kd.C_below HR0_6.out HB.out) | (with_reducible refine Kd.C_alloc ?_ _) | (with_reducible refine Kd.C_drewN ?_ _) | (with_reducible refine Kd.C_drew ?_))); (case side2 => exact HC0_6.out); (case side3 => repeat (first | exact (Kd.C_below HR1_6.out HB.out) | (with_reducible refine Kd.C_alloc ?_ _) | (with_reducible refine Kd.C_drewN ?_ _) | (with_reducible refine Kd.C_drew ?_))); (case side4 => exact HC1_6.out); rintro e w49 ⟨rfl, hb⟩; have n0_ := iD.mk (jJ (g := gb226) (o := .cells #[.int .u8 a0_0, .int .u32 a0_1, .int .u32 a0_2, .slice A0_3 l0_3.length c0_3, .slice A0_4 l0_4.length c0_4, .int .u32 a0_5, .slice A0_6 l0_6.length c0_6, .int .i64 a0_7, .int .i64 a0_8, .slice A0_9 l0_9.length c0_9] 30 (0, 0)) (bk_ BK226.out) hb); have n1_ := iD.mk (jJ (g := gb227) (o := .cells #[.int .u8 a1_0, .int .u32 a1_1, .int .u32 a1_2, .slice A1_3 l1_3.length c1_3, .slice A1_4 l1_4.length c1_4, .int .u32 a1_5, .slice A1_6 l1_6.length c1_6, .int .i64 a1_7, .int .i64 a1_8, .slice A1_9 l1_9.length c1_9] 30 (0, 0)) (bk_ BK227.out) hb); have n2_ := iD.mk (iL (by repeat (first | (with_reducible first | exact HB.out | apply iF | apply iG | apply iH | refine iI ?_ GE226.out | refine iI ?_ GE227.out) | exact HB.out)) hb); clear BK226; clear BK227; clear HB; have BK226 := n0_; have BK227 := n1_; have HB := n2_; clear n0_ n1_ n2_; (try clear hb); (try clear hb2); (try clear hk); (try clear hi)))
              go_ret
              exact ⟨by first | rfl | (simp [iQ, iR] <;> rfl) | (simp [*, iQ, iR] <;> rfl), by repeat (first | (with_reducible first | exact HB.out | apply iF | apply iG | apply iH | refine iI ?_ GE226.out | refine iI ?_ GE227.out) | exact HB.out)⟩
          · replace c29 := Bool.eq_false_iff.mpr c29
            subst c29
            have H1 : (some false) = some r := by rw [if_neg (show ¬ (false = true) by decide)] at H; exact H
            clear H
            have H := H1
            clear H1
            obtain rfl := Option.some.inj H
            have hnb50 := NB226_227.out
            have hnc50 := NB227_226.out
            have hcz51_0 : wc.cell? ⟨gb226, 0, none⟩ = some (.int .u8 a0_0) := (iE BK226.out 0).trans rfl
            have hcz51_1 : wc.cell? ⟨gb226, 1, none⟩ = some (.int .u32 a0_1) := (iE BK226.out 1).trans rfl
            have hcz51_2 : wc.cell? ⟨gb226, 2, none⟩ = some (.int .u32 a0_2) := (iE BK226.out 2).trans rfl
            have hcz51_3 : wc.cell? ⟨gb226, 3, none⟩ = some (.slice A0_3 l0_3.length c0_3) := (iE BK226.out 3).trans rfl
            have hcz51_4 : wc.cell? ⟨gb226, 4, none⟩ = some (.slice A0_4 l0_4.length c0_4) := (iE BK226.out 4).trans rfl
            have hcz51_5 : wc.cell? ⟨gb226, 5, none⟩ = some (.int .u32 a0_5) := (iE BK226.out 5).trans rfl
            have hcz51_6 : wc.cell? ⟨gb226, 6, none⟩ = some (.slice A0_6 l0_6.length c0_6) := (iE BK226.out 6).trans rfl
            have hcz51_7 : wc.cell? ⟨gb226, 7, none⟩ = some (.int .i64 a0_7) := (iE BK226.out 7).trans rfl
            have hcz51_8 : wc.cell? ⟨gb226, 8, none⟩ = some (.int .i64 a0_8) := (iE BK226.out 8).trans rfl
            have hcz51_9 : wc.cell? ⟨gb226, 9, none⟩ = some (.slice A0_9 l0_9.length c0_9) := (iE BK226.out 9).trans rfl
            have hfz51_0 := iC BK226.out 0
            have hfz51_1 := iC BK226.out 1
            have hfz51_2 := iC BK226.out 2
            have hfz51_3 := iC BK226.out 3
            have hfz51_4 := iC BK226.out 4
            have hfz51_5 := iC BK226.out 5
            have hfz51_6 := iC BK226.out 6
            have hfz51_7 := iC BK226.out 7
            have hfz51_8 := iC BK226.out 8
            have hfz51_9 := iC BK226.out 9
            have hcz52_0 : wc.cell? ⟨gb227, 0, none⟩ = some (.int .u8 a1_0) := (iE BK227.out 0).trans rfl
            have hcz52_1 : wc.cell? ⟨gb227, 1, none⟩ = some (.int .u32 a1_1) := (iE BK227.out 1).trans rfl
            have hcz52_2 : wc.cell? ⟨gb227, 2, none⟩ = some (.int .u32 a1_2) := (iE BK227.out 2).trans rfl
            have hcz52_3 : wc.cell? ⟨gb227, 3, none⟩ = some (.slice A1_3 l1_3.length c1_3) := (iE BK227.out 3).trans rfl
            have hcz52_4 : wc.cell? ⟨gb227, 4, none⟩ = some (.slice A1_4 l1_4.length c1_4) := (iE BK227.out 4).trans rfl
            have hcz52_5 : wc.cell? ⟨gb227, 5, none⟩ = some (.int .u32 a1_5) := (iE BK227.out 5).trans rfl
            have hcz52_6 : wc.cell? ⟨gb227, 6, none⟩ = some (.slice A1_6 l1_6.length c1_6) := (iE BK227.out 6).trans rfl
            have hcz52_7 : wc.cell? ⟨gb227, 7, none⟩ = some (.int .i64 a1_7) := (iE BK227.out 7).trans rfl
            have hcz52_8 : wc.cell? ⟨gb227, 8, none⟩ = some (.int .i64 a1_8) := (iE BK227.out 8).trans rfl
            have hcz52_9 : wc.cell? ⟨gb227, 9, none⟩ = some (.slice A1_9 l1_9.length c1_9) := (iE BK227.out 9).trans rfl
            have hfz52_0 := iC BK227.out 0
            have hfz52_1 := iC BK227.out 1
            have hfz52_2 := iC BK227.out 2
            have hfz52_3 := iC BK227.out 3
            have hfz52_4 := iC BK227.out 4
            have hfz52_5 := iC BK227.out 5
            have hfz52_6 := iC BK227.out 6
            have hfz52_7 := iC BK227.out 7
            have hfz52_8 := iC BK227.out 8
            have hfz52_9 := iC BK227.out 9
            go_wp2_with (first | (go_at_call 35; (with_reducible refine (stratumref07_SameInts.calls kj2 _ _ l0_3 _ _ l1_3 true _ ?side1 ?side2 ?side3 ?side4 A26.out).mono ?_); (case side1 => repeat (first | exact (Kd.C_below HR0_3.out HB.out) | (with_reducible refine Kd.C_alloc ?_ _) | (with_reducible refine Kd.C_drewN ?_ _) | (with_reducible refine Kd.C_drew ?_))); (case side2 => exact HC0_3.out); (case side3 => repeat (first | exact (Kd.C_below HR1_3.out HB.out) | (with_reducible refine Kd.C_alloc ?_ _) | (with_reducible refine Kd.C_drewN ?_ _) | (with_reducible refine Kd.C_drew ?_))); (case side4 => exact HC1_3.out); rintro e w' ⟨rfl, ⟨nd, rfl⟩⟩) | (go_at_call 76; (with_reducible refine (stratumref07_SameFacts.calls kj2 _ _ l0_4 _ _ l1_4 false _ ?side1 ?side2 ?side3 ?side4 A28.out).mono ?_); (case side1 => repeat (first | exact (Kd.C_below HR0_4.out (by repeat (first | (with_reducible first | exact HB.out | apply iF | apply iG | apply iH | refine iI ?_ GE226.out | refine iI ?_ GE227.out) | exact HB.out))) | (with_reducible refine Kd.C_alloc ?_ _) | (with_reducible refine Kd.C_drewN ?_ _) | (with_reducible refine Kd.C_drew ?_))); (case side2 => exact HC0_4.out); (case side3 => repeat (first | exact (Kd.C_below HR1_4.out (by repeat (first | (with_reducible first | exact HB.out | apply iF | apply iG | apply iH | refine iI ?_ GE226.out | refine iI ?_ GE227.out) | exact HB.out))) | (with_reducible refine Kd.C_alloc ?_ _) | (with_reducible refine Kd.C_drewN ?_ _) | (with_reducible refine Kd.C_drew ?_))); (case side4 => exact HC1_4.out); rintro e w53 ⟨rfl, hb⟩; have n0_ := iD.mk (jJ (g := gb226) (o := .cells #[.int .u8 a0_0, .int .u32 a0_1, .int .u32 a0_2, .slice A0_3 l0_3.length c0_3, .slice A0_4 l0_4.length c0_4, .int .u32 a0_5, .slice A0_6 l0_6.length c0_6, .int .i64 a0_7, .int .i64 a0_8, .slice A0_9 l0_9.length c0_9] 30 (0, 0)) (bk_ BK226.out) hb); have n1_ := iD.mk (jJ (g := gb227) (o := .cells #[.int .u8 a1_0, .int .u32 a1_1, .int .u32 a1_2, .slice A1_3 l1_3.length c1_3, .slice A1_4 l1_4.length c1_4, .int .u32 a1_5, .slice A1_6 l1_6.length c1_6, .int .i64 a1_7, .int .i64 a1_8, .slice A1_9 l1_9.length c1_9] 30 (0, 0)) (bk_ BK227.out) hb); have n2_ := iD.mk (iL (by repeat (first | (with_reducible first | exact HB.out | apply iF | apply iG | apply iH | refine iI ?_ GE226.out | refine iI ?_ GE227.out) | exact HB.out)) hb); clear BK226; clear BK227; clear HB; have BK226 := n0_; have BK227 := n1_; have HB := n2_; clear n0_ n1_ n2_; (try clear hb); (try clear hb2); (try clear hk); (try clear hi)))
            go_ret
            exact ⟨by first | rfl | (simp [iQ, iR] <;> rfl) | (simp [*, iQ, iR] <;> rfl), by repeat (first | (with_reducible first | exact HB.out | apply iF | apply iG | apply iH | refine iI ?_ GE226.out | refine iI ?_ GE227.out) | exact HB.out)⟩
        · replace c27 := Bool.eq_false_iff.mpr c27
          subst c27
          have H1 : (some false) = some r := by rw [if_neg (show ¬ (false = true) by decide)] at H; exact H
          clear H
          have H := H1
          clear H1
          obtain rfl := Option.some.inj H
          have hnb54 := NB226_227.out
          have hnc54 := NB227_226.out
          have hcz55_0 : wc.cell? ⟨gb226, 0, none⟩ = some (.int .u8 a0_0) := (iE BK226.out 0).trans rfl
          have hcz55_1 : wc.cell? ⟨gb226, 1, none⟩ = some (.int .u32 a0_1) := (iE BK226.out 1).trans rfl
          have hcz55_2 : wc.cell? ⟨gb226, 2, none⟩ = some (.int .u32 a0_2) := (iE BK226.out 2).trans rfl
          have hcz55_3 : wc.cell? ⟨gb226, 3, none⟩ = some (.slice A0_3 l0_3.length c0_3) := (iE BK226.out 3).trans rfl
          have hcz55_4 : wc.cell? ⟨gb226, 4, none⟩ = some (.slice A0_4 l0_4.length c0_4) := (iE BK226.out 4).trans rfl
          have hcz55_5 : wc.cell? ⟨gb226, 5, none⟩ = some (.int .u32 a0_5) := (iE BK226.out 5).trans rfl
          have hcz55_6 : wc.cell? ⟨gb226, 6, none⟩ = some (.slice A0_6 l0_6.length c0_6) := (iE BK226.out 6).trans rfl
          have hcz55_7 : wc.cell? ⟨gb226, 7, none⟩ = some (.int .i64 a0_7) := (iE BK226.out 7).trans rfl
          have hcz55_8 : wc.cell? ⟨gb226, 8, none⟩ = some (.int .i64 a0_8) := (iE BK226.out 8).trans rfl
          have hcz55_9 : wc.cell? ⟨gb226, 9, none⟩ = some (.slice A0_9 l0_9.length c0_9) := (iE BK226.out 9).trans rfl
          have hfz55_0 := iC BK226.out 0
          have hfz55_1 := iC BK226.out 1
          have hfz55_2 := iC BK226.out 2
          have hfz55_3 := iC BK226.out 3
          have hfz55_4 := iC BK226.out 4
          have hfz55_5 := iC BK226.out 5
          have hfz55_6 := iC BK226.out 6
          have hfz55_7 := iC BK226.out 7
          have hfz55_8 := iC BK226.out 8
          have hfz55_9 := iC BK226.out 9
          have hcz56_0 : wc.cell? ⟨gb227, 0, none⟩ = some (.int .u8 a1_0) := (iE BK227.out 0).trans rfl
          have hcz56_1 : wc.cell? ⟨gb227, 1, none⟩ = some (.int .u32 a1_1) := (iE BK227.out 1).trans rfl
          have hcz56_2 : wc.cell? ⟨gb227, 2, none⟩ = some (.int .u32 a1_2) := (iE BK227.out 2).trans rfl
          have hcz56_3 : wc.cell? ⟨gb227, 3, none⟩ = some (.slice A1_3 l1_3.length c1_3) := (iE BK227.out 3).trans rfl
          have hcz56_4 : wc.cell? ⟨gb227, 4, none⟩ = some (.slice A1_4 l1_4.length c1_4) := (iE BK227.out 4).trans rfl
          have hcz56_5 : wc.cell? ⟨gb227, 5, none⟩ = some (.int .u32 a1_5) := (iE BK227.out 5).trans rfl
          have hcz56_6 : wc.cell? ⟨gb227, 6, none⟩ = some (.slice A1_6 l1_6.length c1_6) := (iE BK227.out 6).trans rfl
          have hcz56_7 : wc.cell? ⟨gb227, 7, none⟩ = some (.int .i64 a1_7) := (iE BK227.out 7).trans rfl
          have hcz56_8 : wc.cell? ⟨gb227, 8, none⟩ = some (.int .i64 a1_8) := (iE BK227.out 8).trans rfl
          have hcz56_9 : wc.cell? ⟨gb227, 9, none⟩ = some (.slice A1_9 l1_9.length c1_9) := (iE BK227.out 9).trans rfl
          have hfz56_0 := iC BK227.out 0
          have hfz56_1 := iC BK227.out 1
          have hfz56_2 := iC BK227.out 2
          have hfz56_3 := iC BK227.out 3
          have hfz56_4 := iC BK227.out 4
          have hfz56_5 := iC BK227.out 5
          have hfz56_6 := iC BK227.out 6
          have hfz56_7 := iC BK227.out 7
          have hfz56_8 := iC BK227.out 8
          have hfz56_9 := iC BK227.out 9
          go_wp2_with (first | (go_at_call 35; (with_reducible refine (stratumref07_SameInts.calls kj2 _ _ l0_3 _ _ l1_3 false _ ?side1 ?side2 ?side3 ?side4 A26.out).mono ?_); (case side1 => repeat (first | exact (Kd.C_below HR0_3.out HB.out) | (with_reducible refine Kd.C_alloc ?_ _) | (with_reducible refine Kd.C_drewN ?_ _) | (with_reducible refine Kd.C_drew ?_))); (case side2 => exact HC0_3.out); (case side3 => repeat (first | exact (Kd.C_below HR1_3.out HB.out) | (with_reducible refine Kd.C_alloc ?_ _) | (with_reducible refine Kd.C_drewN ?_ _) | (with_reducible refine Kd.C_drew ?_))); (case side4 => exact HC1_3.out); rintro e w' ⟨rfl, ⟨nd, rfl⟩⟩))
          go_ret
          exact ⟨by first | rfl | (simp [iQ, iR] <;> rfl) | (simp [*, iQ, iR] <;> rfl), by repeat (first | (with_reducible first | exact HB.out | apply iF | apply iG | apply iH | refine iI ?_ GE226.out | refine iI ?_ GE227.out) | exact HB.out)⟩
      · replace c25 := Bool.eq_false_iff.mpr c25
        subst c25
        have H1 : (some false) = some r := by rw [if_neg (show ¬ (false = true) by decide)] at H; exact H
        clear H
        have H := H1
        clear H1
        obtain rfl := Option.some.inj H
        go_wp2
        go_ret
        exact ⟨by first | rfl | (simp [iQ, iR] <;> rfl) | (simp [*, iQ, iR] <;> rfl), by repeat (first | (with_reducible first | exact HB.out | apply iF | apply iG | apply iH | refine iI ?_ GE226.out | refine iI ?_ GE227.out) | exact HB.out)⟩
end Go.Proofs.YtgfkgppomaapiaaDoor.K
end

section
namespace Go.Proofs.YtgfkgppomaapiaaDoor.K
open RowKit YtgfkgppomaapiaaDoorW.PrintWords YtgfkgppomaapiaaDoorW.PrintLast YtgfkgppomaapiaaDoorW.PrintMore My
theorem WV (l m : List Int) (h : l.length = m.length) (k : Nat) (hk : ∀ i : Nat, i < k → l.getD i 0 = m.getD i 0) (hl : l.length ≤ k) : l = m := by
  apply List.ext_getElem h
  intro i h1 h2
  have := hk i (by omega)
  rw [List.getD_eq_getElem?_getD, List.getD_eq_getElem?_getD, List.getElem?_eq_getElem h1, List.getElem?_eq_getElem h2] at this
  exact this
theorem JH (l m : List Int) (h : l.length = m.length) (hn : l.length ≤ 9223372036854775807) (d : Nat) : ∀ i : Int, 0 ≤ i → i ≤ l.length → (l.length : Int) - i = d → (∀ j : Nat, j < i.toNat → l.getD j 0 = m.getD j 0) → ∃ b, Ev (fun k => stratumref07_SameInts.l0 k l m i) b ∧ (b = true ↔ l = m) := by
  induction d with
  | zero =>
    intro i h0 h1 hd hp
    exact ⟨true, Ev.step (f := fun _ => some true) (fun k => by simp only [stratumref07_SameInts.l0]; rw [if_neg (by omega)]) (Ev.now _), by
      simp only [true_iff]
      exact WV l m h l.length (fun j hj => hp j (by omega)) (Nat.le_refl _)⟩
  | succ d ih =>
    intro i h0 h1 hd hp
    have hlt : i < (l.length : Int) := by omega
    by_cases c : rd l i = rd m i
    · obtain ⟨b, h2, h3⟩ := ih (i + 1) (by omega) (by omega) (by omega) (fun j hj => by
        rcases Nat.lt_or_ge j i.toNat with h | h
        · exact hp j h
        · obtain rfl : j = i.toNat := by omega
          exact c)
      exact ⟨b, Ev.step (fun k => by simp only [stratumref07_SameInts.l0]; rw [if_pos hlt, if_pos h0, if_pos (by omega), if_pos c, mV h0 hlt hn]) h2, h3⟩
    · refine ⟨false, Ev.step (f := fun _ => some false) (fun k => by simp only [stratumref07_SameInts.l0]; rw [if_pos hlt, if_pos h0, if_pos (by omega), if_neg c]) (Ev.now _), ?_⟩
      simp only [Bool.false_eq_true, false_iff]
      intro e
      rw [e] at c
      exact c rfl
theorem JP (l m : List Int) (hn : l.length ≤ 9223372036854775807) : ∃ b, Ev (fun k => stratumref07_SameInts.f k l m) b ∧ (b = true ↔ l = m) := by
  by_cases h : (l.length : Int) = (m.length : Int)
  · obtain ⟨b, h1, h2⟩ := JH l m (by omega) hn l.length 0 (by omega) (by omega) (by omega) (fun j hj => by simp at hj)
    exact ⟨b, Ev.congr (fun k => by unfold stratumref07_SameInts.f; rw [if_pos h]) h1, h2⟩
  · refine ⟨false, Ev.congr (f := fun _ => some false) (fun k => by unfold stratumref07_SameInts.f; rw [if_neg h]) (Ev.now _), ?_⟩
    simp only [Bool.false_eq_true, false_iff]
    intro e
    exact h (by rw [e])
theorem UA (l m : List jW) (h : l.length = m.length) (hk : ∀ i : Nat, i < l.length → (l.getD i z98).f0 = (m.getD i z98).f0 ∧ (l.getD i z98).f1 = (m.getD i z98).f1) : l = m := by
  apply List.ext_getElem h
  intro i h1 h2
  have := hk i h1
  rw [List.getD_eq_getElem?_getD, List.getD_eq_getElem?_getD, List.getElem?_eq_getElem h1, List.getElem?_eq_getElem h2] at this
  simp only [Option.getD_some] at this
  cases hx : l[i]
  cases hy : m[i]
  rw [hx, hy] at this
  simp only at this
  rw [this.1, this.2]
theorem L9 (a b : Int) (l m : List jW) (h : l.length = m.length) (hn : l.length ≤ 9223372036854775807) (d : Nat) : ∀ i : Int, 0 ≤ i → i ≤ l.length → (l.length : Int) - i = d → (∀ j : Nat, j < i.toNat → (l.getD j z98).f0 = (m.getD j z98).f0 ∧ (l.getD j z98).f1 = (m.getD j z98).f1) → ∃ t, Ev (fun k => stratumref07_SameMap.l0 k i a l b m) t ∧ (t = true ↔ l = m) := by
  induction d with
  | zero =>
    intro i h0 h1 hd hp
    exact ⟨true, Ev.step (f := fun _ => some true) (fun k => by simp only [stratumref07_SameMap.l0]; rw [if_neg (by omega)]) (Ev.now _), by
      simp only [true_iff]
      exact UA l m h (fun j hj => hp j (by omega))⟩
  | succ d ih =>
    intro i h0 h1 hd hp
    have hlt : i < (l.length : Int) := by omega
    by_cases c : (jU l i).f0 = (jU m i).f0 ∧ (jU l i).f1 = (jU m i).f1
    · obtain ⟨b, h2, h3⟩ := ih (i + 1) (by omega) (by omega) (by omega) (fun j hj => by
        rcases Nat.lt_or_ge j i.toNat with h | h
        · exact hp j h
        · obtain rfl : j = i.toNat := by omega
          exact c)
      exact ⟨b, Ev.step (fun k => by simp only [stratumref07_SameMap.l0]; rw [if_pos hlt, if_pos h0, if_pos (by omega), if_neg (by simp [c.1, c.2]), mV h0 hlt hn]) h2, h3⟩
    · refine ⟨false, Ev.step (f := fun _ => some false) (fun k => by simp only [stratumref07_SameMap.l0]; rw [if_pos hlt, if_pos h0, if_pos (by omega), if_pos (by simp; exact Classical.not_and_iff_not_or_not.mp c)]) (Ev.now _), ?_⟩
      simp only [Bool.false_eq_true, false_iff]
      intro e
      rw [e] at c
      exact c ⟨rfl, rfl⟩
theorem O3 (a b : Int) (l m : List jW) (hn : l.length ≤ 9223372036854775807) : ∃ t, Ev (fun k => stratumref07_SameMap.f k a l b m) t ∧ (t = true ↔ (a = b ∧ l = m)) := by
  have hno : ∀ (x : Bool), x = true → Ev (fun k => stratumref07_SameMap.j0 k x a l b m) false := fun x hx => Ev.step (f := fun _ => some false) (fun k => by simp only [stratumref07_SameMap.j0]; rw [if_pos hx]) (Ev.now _)
  by_cases hab : a = b
  · by_cases h : (l.length : Int) = (m.length : Int)
    · obtain ⟨t, h1, h2⟩ := L9 a b l m (by omega) hn l.length 0 (by omega) (by omega) (by omega) (fun j hj => by simp at hj)
      refine ⟨t, Ev.congr (fun k => by unfold stratumref07_SameMap.f; rw [if_pos hab]) (Ev.step (fun k => by simp only [stratumref07_SameMap.j0]; rw [if_neg (by simp [h])]) h1), ?_⟩
      rw [h2]; exact ⟨fun e => ⟨hab, e⟩, fun e => e.2⟩
    · refine ⟨false, Ev.congr (fun k => by unfold stratumref07_SameMap.f; rw [if_pos hab]) (hno _ (by simpa [bne] using h)), ?_⟩
      simp only [Bool.false_eq_true, false_iff]
      intro e
      exact h (by rw [e.2])
  · refine ⟨false, Ev.congr (fun k => by unfold stratumref07_SameMap.f; rw [if_neg hab]) (hno true rfl), ?_⟩
    simp only [Bool.false_eq_true, false_iff]
    exact fun e => hab e.1
def W9 (x y : SRec) : Prop := x.f0 = y.f0 ∧ x.f1 = y.f1 ∧ x.f2 = y.f2 ∧ x.f6 = y.f6 ∧ x.f7 = y.f7 ∧ x.f3 = y.f3 ∧ jY x.f4 = jY y.f4 ∧ (x.f5.f0 = y.f5.f0 ∧ x.f5.f1 = y.f5.f1) ∧ jT x.f8 = jT y.f8
structure SLen (x : SRec) : Prop where
  n3 : x.f3.length ≤ 9223372036854775807
  n4 : (jY x.f4).length ≤ 140737488355328
  n6 : x.f5.f1.length ≤ 9223372036854775807
  n9 : (jT x.f8).length ≤ 140737488355328
theorem IZ (l m : List jK) (hl : (jY l).length ≤ 140737488355328) (hm : (jY m).length ≤ 140737488355328) : ∃ t, Ev (fun k => stratumref07_SameFacts.f k l m) t ∧ (t = true ↔ jY l = jY m) := by
  have e1 := yD l [] (by simpa using hl)
  have e2 := yD m [] (by simpa using hm)
  rw [List.nil_append] at e1 e2
  refine ⟨decide (jY l = jY m), ?_, by simp⟩
  unfold stratumref07_SameFacts.f
  refine Ev.bind e1 (Ev.bind e2 ?_)
  rw [uU]
  exact Ev.now _
theorem yG (l m : List jG) (hl : (jT l).length ≤ 140737488355328) (hm : (jT m).length ≤ 140737488355328) : stratumref07_SameEntries.f l m = some (decide (jT l = jT m)) := by
  unfold stratumref07_SameEntries.f stratumref07_Entries.f
  rw [if_pos ⟨rfl, hl⟩, if_pos ⟨rfl, hm⟩]
  simp only [Option.bind_some]
  rw [uU]
theorem VF (x y : SRec) (hx : SLen x) (hy : SLen y) : ∃ t, Ev (fun k => stratumref07_Same.f k x.f0 x.f1 x.f2 x.f3 x.f4 x.f5.f0 x.f5.f1 x.f6 x.f7 x.f8 y.f0 y.f1 y.f2 y.f3 y.f4 y.f5.f0 y.f5.f1 y.f6 y.f7 y.f8) t ∧ (t = true ↔ W9 x y) := by
  have hno : ∀ (b : Bool), b = false → Ev (fun k => stratumref07_Same.j0 k b x.f0 x.f1 x.f2 x.f3 x.f4 x.f5.f0 x.f5.f1 x.f6 x.f7 x.f8 y.f0 y.f1 y.f2 y.f3 y.f4 y.f5.f0 y.f5.f1 y.f6 y.f7 y.f8) false := fun b hb => Ev.step (f := fun _ => some false) (fun k => by simp only [stratumref07_Same.j0]; rw [if_neg (by rw [hb]; decide)]) (Ev.now _)
  have no : ∀ {p : Prop}, ¬ p → (false = true ↔ p) := fun h => ⟨(fun e => by cases e), fun e => absurd e h⟩
  by_cases h0 : x.f0 = y.f0
  case neg => exact ⟨false, Ev.congr (fun k => by unfold stratumref07_Same.f; rw [if_neg h0]) (hno false rfl), no (fun e => h0 e.1)⟩
  by_cases h1 : x.f1 = y.f1
  case neg => exact ⟨false, Ev.congr (fun k => by unfold stratumref07_Same.f; rw [if_pos h0, if_neg h1]) (hno false rfl), no (fun e => h1 e.2.1)⟩
  by_cases h2 : x.f2 = y.f2
  case neg => exact ⟨false, Ev.congr (fun k => by unfold stratumref07_Same.f; rw [if_pos h0, if_pos h1, if_neg h2]) (hno false rfl), no (fun e => h2 e.2.2.1)⟩
  by_cases h6 : x.f6 = y.f6
  case neg => exact ⟨false, Ev.congr (fun k => by unfold stratumref07_Same.f; rw [if_pos h0, if_pos h1, if_pos h2, if_neg h6]) (hno false rfl), no (fun e => h6 e.2.2.2.1)⟩
  by_cases h7 : x.f7 = y.f7
  case neg => exact ⟨false, Ev.congr (fun k => by unfold stratumref07_Same.f; rw [if_pos h0, if_pos h1, if_pos h2, if_pos h6]) (hno _ (by simpa using h7)), no (fun e => h7 e.2.2.2.2.1)⟩
  obtain ⟨t3, a3, b3⟩ := JP x.f3 y.f3 hx.n3
  obtain ⟨t4, a4, b4⟩ := IZ x.f4 y.f4 hx.n4 hy.n4
  obtain ⟨t5, a5, b5⟩ := O3 x.f5.f0 y.f5.f0 x.f5.f1 y.f5.f1 hx.n6
  have a9 := yG x.f8 y.f8 hx.n9 hy.n9
  refine ⟨t3 && (t4 && (t5 && decide (jT x.f8 = jT y.f8))), Ev.congr (fun k => by unfold stratumref07_Same.f; rw [if_pos h0, if_pos h1, if_pos h2, if_pos h6]) (Ev.step (fun k => by simp only [stratumref07_Same.j0]; rw [if_pos (by simpa using h7)]) (Ev.bind a3 (rD _ (Ev.bind a4 (rD _ (Ev.bind a5 (rD _ ?_))))))), ?_⟩
  · exact Ev.congr (fun k => by rw [a9]; rfl) (Ev.now _)
  · simp only [Bool.and_eq_true, decide_eq_true_eq, b3, b4, b5]
    exact ⟨fun e => ⟨h0, h1, h2, h6, h7, e.1, e.2.1, e.2.2.1, e.2.2.2⟩, fun e => ⟨e.2.2.2.2.2.1, e.2.2.2.2.2.2.1, e.2.2.2.2.2.2.2.1, e.2.2.2.2.2.2.2.2⟩⟩
end Go.Proofs.YtgfkgppomaapiaaDoor.K
end

section
namespace Go.Proofs.YtgfkgppomaapiaaDoor.K
open RowKit YtgfkgppomaapiaaDoorW.PrintWords YtgfkgppomaapiaaDoorW.PrintLast YtgfkgppomaapiaaDoorW.PrintMore My
theorem LU (r : SRec) (h : jL r = true) :
    (r.f0 = 1 ∧ kT (-1) r.f3 = true ∧ lF r.f4 = true ∧ r.f2 = 0 ∧ r.f5.f0 = 0 ∧ r.f5.f1 = [] ∧ r.f6 = 0 ∧ r.f7 = 0 ∧ r.f8 = []) ∨
    (r.f0 = 2 ∧ kT (-1) r.f3 = true ∧ r.f4 = [] ∧ r.f5.f0 = 0 ∧ r.f5.f1 = [] ∧ r.f6 = 0 ∧ r.f7 = 0 ∧ r.f8 = []) ∨
    ((r.f0 = 3 ∨ r.f0 = 4 ∨ r.f0 = 5) ∧ r.f2 = 0 ∧ r.f3 = [] ∧ r.f4 = [] ∧ r.f5.f0 = 0 ∧ r.f5.f1 = [] ∧ r.f6 = 0 ∧ r.f7 = 0 ∧ r.f8 = []) ∨
    (r.f0 = 6 ∧ r.f1 = 0 ∧ r.f5.f1.length ≤ 40 ∧ (∀ s ∈ r.f5.f1, lN s = true) ∧ r.f2 = 0 ∧ r.f3 = [] ∧ r.f4 = [] ∧ r.f6 = 0 ∧ r.f7 = 0 ∧ r.f8 = []) ∨
    (r.f0 = 7 ∧ lZ r.f8 = true ∧ r.f8.length ≤ 5000 ∧ (0 ≤ r.f6 ∧ r.f6 ≤ 10000) ∧ (0 ≤ r.f7 ∧ r.f7 ≤ 10000) ∧ r.f2 = 0 ∧ r.f3 = [] ∧ r.f4 = [] ∧ r.f5.f0 = 0 ∧ r.f5.f1 = []) := by
  unfold jL at h
  by_cases h1 : r.f0 = 1
  · rw [if_pos h1] at h
    simp only [Bool.and_eq_true, beq_iff_eq] at h
    obtain ⟨⟨⟨⟨⟨⟨⟨ha, hb⟩, hc⟩, hd⟩, he⟩, hf⟩, hg⟩, hi⟩ := h
    exact .inl ⟨h1, ha, hb, hc, hd, kR he, hf, hg, kR hi⟩
  rw [if_neg h1] at h
  by_cases h2 : r.f0 = 2
  · rw [if_pos h2] at h
    simp only [Bool.and_eq_true, beq_iff_eq] at h
    obtain ⟨⟨⟨⟨⟨⟨ha, hb⟩, hc⟩, hd⟩, he⟩, hf⟩, hg⟩ := h
    exact .inr (.inl ⟨h2, ha, kR hb, hc, kR hd, he, hf, kR hg⟩)
  rw [if_neg h2] at h
  by_cases h3 : (decide (r.f0 = 3) || decide (r.f0 = 4) || decide (r.f0 = 5)) = true
  · rw [if_pos h3] at h
    have h3' : r.f0 = 3 ∨ r.f0 = 4 ∨ r.f0 = 5 := by
      simp only [Bool.or_eq_true, decide_eq_true_eq] at h3
      omega
    simp only [Bool.and_eq_true, beq_iff_eq] at h
    obtain ⟨⟨⟨⟨⟨⟨⟨ha, hb⟩, hc⟩, hd⟩, he⟩, hf⟩, hg⟩, hi⟩ := h
    exact .inr (.inr (.inl ⟨h3', ha, kR hb, kR hc, hd, kR he, hf, hg, kR hi⟩))
  rw [if_neg h3] at h
  by_cases h6 : r.f0 = 6
  · rw [if_pos h6] at h
    simp only [Bool.and_eq_true, beq_iff_eq, decide_eq_true_eq, List.all_eq_true] at h
    obtain ⟨⟨⟨⟨⟨⟨⟨⟨ha, hb⟩, hc⟩, hd⟩, he⟩, hf⟩, hg⟩, hi⟩, hj⟩ := h
    exact .inr (.inr (.inr (.inl ⟨h6, ha, hb, hc, hd, kR he, kR hf, hg, hi, kR hj⟩)))
  rw [if_neg h6] at h
  by_cases h7 : r.f0 = 7
  · rw [if_pos h7] at h
    simp only [Bool.and_eq_true, beq_iff_eq, decide_eq_true_eq] at h
    obtain ⟨⟨⟨⟨⟨⟨⟨⟨⟨⟨ha, hb⟩, hc⟩, hd⟩, he⟩, hf⟩, hg⟩, hi⟩, hj⟩, hk⟩, hl⟩ := h
    exact .inr (.inr (.inr (.inr ⟨h7, ha, hb, ⟨hc, hd⟩, ⟨he, hf⟩, hg, kR hi, kR hj, hk, kR hl⟩)))
  rw [if_neg h7] at h
  cases h
theorem rZ : (jY []).length ≤ 140737488355328 := by decide
theorem z32 : (0:Int) ≤ 0 ∧ (0:Int) < 4294967296 := by decide
theorem pG : (jT []).length ≤ 140737488355328 := by decide
theorem yX (r : SRec) (h : jL r = true) : SLen r := by
  rcases LU r h with ⟨_, h3, h4, _, _, h6, _, _, h9⟩ | ⟨_, h3, h4, _, h6, _, _, h9⟩ | ⟨_, _, h3, h4, _, h6, _, _, h9⟩ | ⟨_, _, h6, _, _, h3, h4, _, _, h9⟩ | ⟨_, h9, h95, _, _, _, h3, h4, _, h6⟩
  · exact ⟨by have := oQ _ h3; omega, by have := rF _ h4; omega, by rw [h6]; decide, by rw [h9]; exact pG⟩
  · exact ⟨by have := oQ _ h3; omega, by rw [h4]; exact rZ, by rw [h6]; decide, by rw [h9]; exact pG⟩
  · exact ⟨by rw [h3]; decide, by rw [h4]; exact rZ, by rw [h6]; decide, by rw [h9]; exact pG⟩
  · exact ⟨by rw [h3]; decide, by rw [h4]; exact rZ, by omega, by rw [h9]; exact pG⟩
  · exact ⟨by rw [h3]; decide, by rw [h4]; exact rZ, by rw [h6]; decide, by have := qQ _ h9 h95; omega⟩
theorem yS (l : List jK) (h : ∀ f ∈ l, NF f) : ∀ f ∈ nJ l, xW f := by
  intro f hf
  unfold nJ at hf
  obtain ⟨g, hg, rfl⟩ := List.mem_map.1 hf
  exact (h g (List.mem_of_mem_take hg)).2
theorem QS : ∀ (l : List jG) (last : Int), (∀ e ∈ l, IQ e) → ∀ e ∈ entM last l, uK e
  | [], _, _, e, h => by cases h
  | x :: l, last, hl, e, h => by
    rw [entM] at h
    rcases List.mem_cons.1 h with rfl | h
    · exact ⟨by simp only; omega, by simp only; omega, yS _ (hl x List.mem_cons_self).2⟩
    · exact QS l _ (fun y hy => hl y (List.mem_cons_of_mem _ hy)) e h
theorem VJ (kind id at_ nodes : Int) (facts : List jK) (spans : List Int) (from_ to_ : Int) (entries : List jG) (hid : 0 ≤ id ∧ id < 4294967296) (hat : 0 ≤ at_ ∧ at_ < 4294967296) (hf : ∀ f ∈ facts, NF f) (he : ∀ e ∈ entries, IQ e) :
    vU (xM kind id at_ nodes facts spans from_ to_ entries) := by
  have hk : 0 ≤ (1 + Int.tmod kind 7) % 256 ∧ (1 + Int.tmod kind 7) % 256 < 256 := by omega
  unfold xM
  simp only
  generalize (1 + Int.tmod kind 7) % 256 = k at hk
  split
  · exact ⟨hk, hid, z32, yS _ hf, z32, fun e h => by cases h⟩
  split
  · exact ⟨hk, hid, hat, fun e h => (by cases h), z32, fun e h => by cases h⟩
  split
  · exact ⟨hk, z32, z32, fun e h => (by cases h), hat, fun e h => by cases h⟩
  split
  · exact ⟨hk, hid, z32, fun e h => (by cases h), z32, QS _ _ (fun e h => he e (List.mem_of_mem_take h))⟩
  · exact ⟨hk, hid, z32, fun e h => (by cases h), z32, fun e h => by cases h⟩
end Go.Proofs.YtgfkgppomaapiaaDoor.K
end

section
namespace Go.Proofs.YtgfkgppomaapiaaDoor.K
open RowKit YtgfkgppomaapiaaDoorW.PrintWords YtgfkgppomaapiaaDoorW.PrintLast YtgfkgppomaapiaaDoorW.PrintMore My
theorem IV {w : World} {base : Nat} {ok : Nat → Prop} {A : Option Addr} {n c : Nat} {r : List Int} (h : Kd.R (Kd.int .u8) 5 w base ok (.slice A n c) r) : (convert 33 9 (.slice A n c)).run Tryd.prog w = .ok (.string (strOfNums r)) w :=
  kM (P := Tryd.prog) Tryd.underlying33 Tryd.underlying5 Tryd.underlying9 (Kd.own_of_R h)
structure Lies (w : World) (r : SRec) (A3 : Option Addr) (a3 : Nat) (A4 : Option Addr) (a4 : Nat) (A6 : Option Addr) (a6 : Nat) (A9 : Option Addr) (a9 : Nat) : Prop where
  h3 : Kd.C (Kd.int .i64) w A3 r.f3.length r.f3
  d3 : r.f3.length ≤ a3
  h4 : Kd.C k139 w A4 r.f4.length r.f4
  d4 : r.f4.length ≤ a4
  h6 : Kd.C k98 w A6 r.f5.f1.length r.f5.f1
  d6 : r.f5.f1.length ≤ a6
  h9 : Kd.C k86 w A9 r.f8.length r.f8
  d9 : r.f8.length ≤ a9
theorem Lies.below {w w' : World} {r : SRec} {A3 A4 A6 A9 : Option Addr} {a3 a4 a6 a9 : Nat} (h : Lies w r A3 a3 A4 a4 A6 a6 A9 a9) (hb : Below w.heap.size w w') : Lies w' r A3 a3 A4 a4 A6 a6 A9 a9 :=
  ⟨Kd.C_below h.h3 hb, h.d3, Kd.C_below h.h4 hb, h.d4, Kd.C_below h.h6 hb, h.d6, Kd.C_below h.h9 hb, h.d9⟩
theorem LQ {w : World} {r : SRec} {A3 A4 A6 A9 : Option Addr} {a3 a4 a6 a9 : Nat} (h : Lies w r A3 a3 A4 a4 A6 a6 A9 a9) {E1 : List Int} {E2 : Int} (hE : encR r = (E1, E2)) : Calls Tryd.prog 17 #[.agg #[.int .u8 r.f0, .int .u32 r.f1, .int .u32 r.f2, .slice A3 r.f3.length a3, .slice A4 r.f4.length a4, .int .u32 r.f5.f0, .slice A6 r.f5.f1.length a6, .int .i64 r.f6, .int .i64 r.f7, .slice A9 r.f8.length a9]] w fun e w' => ∃ v0_ : Value, e = .returned (.tuple #[v0_, .int .u16 E2]) ∧ Kd.R (Kd.int .u8) 5 w' w.heap.size (fun _ => True) v0_ E1 ∧ Below w.heap.size w w' :=
  code_Encode.calls r.f0 r.f1 r.f2 A3 a3 r.f3 A4 a4 r.f4 r.f5.f0 A6 a6 r.f5.f1 r.f6 r.f7 A9 a9 r.f8 E1 E2 w h.h3 h.d3 h.h4 h.d4 h.h6 h.d6 h.h9 h.d9 (congrArg some hE)
theorem Q9 {w : World} {r s : SRec} {A3 A4 A6 A9 B3 B4 B6 B9 : Option Addr} {a3 a4 a6 a9 b3 b4 b6 b9 : Nat} (h : Lies w r A3 a3 A4 a4 A6 a6 A9 a9) (g : Lies w s B3 b3 B4 b4 B6 b6 B9 b9) {t : Bool} (ht : ∃ k, stratumref07_Same.f k r.f0 r.f1 r.f2 r.f3 r.f4 r.f5.f0 r.f5.f1 r.f6 r.f7 r.f8 s.f0 s.f1 s.f2 s.f3 s.f4 s.f5.f0 s.f5.f1 s.f6 s.f7 s.f8 = some t) :
    Calls Tryd.prog 23 #[.agg #[.int .u8 r.f0, .int .u32 r.f1, .int .u32 r.f2, .slice A3 r.f3.length a3, .slice A4 r.f4.length a4, .int .u32 r.f5.f0, .slice A6 r.f5.f1.length a6, .int .i64 r.f6, .int .i64 r.f7, .slice A9 r.f8.length a9], .agg #[.int .u8 s.f0, .int .u32 s.f1, .int .u32 s.f2, .slice B3 s.f3.length b3, .slice B4 s.f4.length b4, .int .u32 s.f5.f0, .slice B6 s.f5.f1.length b6, .int .i64 s.f6, .int .i64 s.f7, .slice B9 s.f8.length b9]] w fun e w' => e = .returned (.bool t) ∧ Below w.heap.size w w' := by
  obtain ⟨k, hk⟩ := ht
  exact stratumref07_Same.calls k _ _ _ _ _ _ _ _ _ _ _ _ _ _ _ _ _ _ _ _ _ _ _ _ _ _ _ _ _ _ _ _ _ _ _ _ t w h.h3 h.d3 h.h4 h.d4 h.h6 h.d6 h.h9 h.d9 g.h3 g.d3 g.h4 g.d4 g.h6 g.d6 g.h9 g.d9 hk
def U7 (w : World) (r : SRec) (e : Ending) (w' : World) : Prop := ∃ A3 a3 A4 a4 A6 a6 A9 a9, e = .returned (.agg #[.int .u8 r.f0, .int .u32 r.f1, .int .u32 r.f2, .slice A3 r.f3.length a3, .slice A4 r.f4.length a4, .int .u32 r.f5.f0, .slice A6 r.f5.f1.length a6, .int .i64 r.f6, .int .i64 r.f7, .slice A9 r.f8.length a9]) ∧ Lies w' r A3 a3 A4 a4 A6 a6 A9 a9 ∧ Below w.heap.size w w'
theorem TL (kind id at_ nodes : Int) {A4 : Option Addr} {a4 : Nat} (l4 : List jK) {A5 : Option Addr} {a5 : Nat} (l5 : List Int) (from_ to_ : Int) {A8 : Option Addr} {a8 : Nat} (l8 : List jG) {w : World} (h4 : Kd.C k139 w A4 l4.length l4) (d4 : l4.length ≤ a4) (h5 : Kd.C (Kd.int .u16) w A5 l5.length l5) (d5 : l5.length ≤ a5) (h8 : Kd.C k86 w A8 l8.length l8) (d8 : l8.length ≤ a8) (hf : ∀ e ∈ l8, e.f1.length ≤ 9223372036854775807)
    {r : SRec} (hr : xM kind id at_ nodes l4 l5 from_ to_ l8 = r) :
    Calls Tryd.prog 21 #[.int .u8 kind, .int .u32 id, .int .u32 at_, .int .u8 nodes, .slice A4 l4.length a4, .slice A5 l5.length a5, .int .u16 from_, .int .u16 to_, .slice A8 l8.length a8] w (U7 w r) := by
  have hev := VW kind id at_ nodes l4 l5 from_ to_ l8 (lH h4) hf
  rw [hr] at hev
  obtain ⟨k, hk⟩ := hev.rounds
  refine (stratumlaw07_Make.calls k kind id at_ nodes A4 a4 l4 A5 a5 l5 from_ to_ A8 a8 l8 _ _ _ _ _ _ _ _ _ _ w h4 d4 h5 d5 h8 d8 hk).mono ?_
  rintro e w1 ⟨v3, v4, v6, v9, rfl, g3, g4, g6, g9, hB⟩
  obtain ⟨B3, b3, rfl⟩ := Kd.R_slice g3
  obtain ⟨B4, b4, rfl⟩ := Kd.R_slice g4
  obtain ⟨B6, b6, rfl⟩ := Kd.R_slice g6
  obtain ⟨B9, b9, rfl⟩ := Kd.R_slice g9
  obtain ⟨_, q3, C3⟩ := Kd.R_reads' g3
  obtain ⟨_, q4, C4⟩ := Kd.R_reads' g4
  obtain ⟨_, q6, C6⟩ := Kd.R_reads' g6
  obtain ⟨_, q9, C9⟩ := Kd.R_reads' g9
  exact ⟨B3, b3, B4, b4, B6, b6, B9, b9, rfl, ⟨C3, q3, C4, q4, C6, q6, C9, q9⟩, hB⟩
end Go.Proofs.YtgfkgppomaapiaaDoor.K
end

section
namespace Go.Proofs.YtgfkgppomaapiaaDoor.K
open Go.RowKit Go.Proofs.YtgfkgppomaapiaaDoorW.PrintWords Go.Proofs.YtgfkgppomaapiaaDoor.My
theorem vM {n x : Nat} {b t : List UInt8} (h : number n b = some (x, t)) : x < 256 ^ n := by
  unfold number at h
  split at h
  · cases h
  · injection h with h
    injection h with h1 h2
    subst h1
    have := xB (b.take n)
    rwa [List.length_take, Nat.min_eq_left (by omega)] at this
theorem uS {n : Nat} {x : Int} {b t : List UInt8} (h : intP n b = some (x, t)) : 0 ≤ x ∧ x < 256 ^ n := by
  unfold intP at h
  obtain ⟨⟨y, s⟩, h1, h2⟩ := Option.bind_eq_some_iff.1 h
  injection h2 with h2
  injection h2 with h3 h4
  subst h3
  have := vM h1
  simp only
  exact ⟨by omega, by have : ((y : Nat) : Int) < ((256 ^ n : Nat) : Int) := by omega
                      simpa using this⟩
theorem LH {α : Type} {p : List UInt8 → Option (α × List UInt8)} {Q : α → Prop} (hp : ∀ b x t, p b = some (x, t) → Q x) : ∀ (n : Nat) (b : List UInt8) (l : List α) (t : List UInt8), repP p n b = some (l, t) → ∀ x ∈ l, Q x
  | 0, b, l, t, h, x, hx => by
    unfold repP at h
    injection h with h
    injection h with h1 h2
    subst h1
    cases hx
  | n + 1, b, l, t, h, x, hx => by
    unfold repP at h
    obtain ⟨⟨y, s⟩, h1, h2⟩ := Option.bind_eq_some_iff.1 h
    obtain ⟨⟨ys, u⟩, h3, h4⟩ := Option.bind_eq_some_iff.1 h2
    injection h4 with h4
    injection h4 with h5 h6
    subst h5
    rcases List.mem_cons.1 hx with rfl | hx
    · exact hp _ _ _ h1
    · exact LH hp n _ _ _ h3 x hx
theorem WL {n : Nat} (h : n < 256 ^ 8) : -9223372036854775808 ≤ s64 n ∧ s64 n < 9223372036854775808 := by
  have e : (256 : Nat) ^ 8 = 18446744073709551616 := by decide
  rw [e] at h
  unfold s64
  split <;> omega
theorem RY {b t : List UInt8} {f : jK} (h : qA b = some (f, t)) : xW f := by
  unfold qA at h
  obtain ⟨x, _, h⟩ := Option.bind_eq_some_iff.1 h
  obtain ⟨y, _, h⟩ := Option.bind_eq_some_iff.1 h
  obtain ⟨⟨z, s⟩, h1, h⟩ := Option.bind_eq_some_iff.1 h
  injection h with h
  injection h with h2 h3
  subst h2
  exact WL (vM h1)
theorem J3 {b t : List UInt8} {l : List jK} (h : mW b = some (l, t)) : ∀ f ∈ l, xW f := by
  unfold mW at h
  obtain ⟨x, _, h⟩ := Option.bind_eq_some_iff.1 h
  exact LH (fun _ _ _ => RY) _ _ _ _ h
theorem QX {b t : List UInt8} {e : jG} (h : nO b = some (e, t)) : uK e := by
  unfold nO at h
  obtain ⟨⟨x, s⟩, h1, h⟩ := Option.bind_eq_some_iff.1 h
  obtain ⟨⟨y, u⟩, h2, h⟩ := Option.bind_eq_some_iff.1 h
  injection h with h
  injection h with h3 h4
  subst h3
  have := uS h1
  exact ⟨this.1, by have := this.2; simp at this ⊢; omega, J3 h2⟩
theorem JZ {b t : List UInt8} {l : List jG} (h : lL b = some (l, t)) : ∀ e ∈ l, uK e := by
  unfold lL at h
  obtain ⟨x, _, h⟩ := Option.bind_eq_some_iff.1 h
  exact LH (fun _ _ _ => QX) _ _ _ _ h
theorem z32' : (0 : Int) ≤ 0 ∧ (0 : Int) < 4294967296 := by decide
theorem LC {x : Int} {b t : List UInt8} (h : intP 4 b = some (x, t)) : 0 ≤ x ∧ x < 4294967296 := by
  have := uS h
  exact ⟨this.1, by have := this.2; simp at this; omega⟩
theorem V5 {b t : List UInt8} {r : SRec} (h : recP b = some (r, t)) : vU r := by
  unfold recP at h
  obtain ⟨⟨k, s⟩, h1, h⟩ := Option.bind_eq_some_iff.1 h
  obtain ⟨⟨id, u⟩, h2, h⟩ := Option.bind_eq_some_iff.1 h
  have hk := uS h1
  have hk : 0 ≤ k ∧ k < 256 := ⟨hk.1, by have := hk.2; simp at this; omega⟩
  have hid := LC h2
  simp only at h
  unfold rX at h
  split at h
  · obtain ⟨⟨x, s⟩, h3, h⟩ := Option.bind_eq_some_iff.1 h
    obtain ⟨⟨y, s2⟩, h4, h⟩ := Option.bind_eq_some_iff.1 h
    injection h with h
    injection h with h5 h6
    subst h5
    exact ⟨hk, hid, z32', J3 h4, z32', fun e h => by cases h⟩
  split at h
  · obtain ⟨⟨x, s⟩, h3, h⟩ := Option.bind_eq_some_iff.1 h
    obtain ⟨⟨y, s2⟩, h4, h⟩ := Option.bind_eq_some_iff.1 h
    injection h with h
    injection h with h5 h6
    subst h5
    exact ⟨hk, hid, LC h3, (fun e h => by cases h), z32', fun e h => by cases h⟩
  split at h
  · obtain ⟨⟨x, s⟩, h3, h⟩ := Option.bind_eq_some_iff.1 h
    obtain ⟨⟨y, s2⟩, h4, h⟩ := Option.bind_eq_some_iff.1 h
    injection h with h
    injection h with h5 h6
    subst h5
    exact ⟨hk, hid, z32', (fun e h => by cases h), LC h3, fun e h => by cases h⟩
  split at h
  · obtain ⟨⟨x, s⟩, h3, h⟩ := Option.bind_eq_some_iff.1 h
    obtain ⟨⟨y, s2⟩, h4, h⟩ := Option.bind_eq_some_iff.1 h
    obtain ⟨⟨z, s3⟩, h7, h⟩ := Option.bind_eq_some_iff.1 h
    injection h with h
    injection h with h5 h6
    subst h5
    exact ⟨hk, hid, z32', (fun e h => by cases h), z32', JZ h7⟩
  · injection h with h
    injection h with h5 h6
    subst h5
    exact ⟨hk, hid, z32', (fun e h => by cases h), z32', fun e h => by cases h⟩
theorem QF (l : List UInt8) : ((decR l).2 ≠ 0 ∧ (decR l).1 = jF) ∨ (∃ x, decR l = (x, 0) ∧ jL x = true ∧ vU x ∧ recE x = l ∧ l.length ≤ 60000) := by
  unfold decR
  by_cases hl : 60000 < l.length
  · rw [if_pos hl]; exact .inl ⟨(by decide : (3 : Int) ≠ 0), rfl⟩
  rw [if_neg hl]
  cases hp : recP l with
  | none => exact .inl ⟨(by decide : (70 : Int) ≠ 0), rfl⟩
  | some y =>
    obtain ⟨x, r⟩ := y
    simp only
    by_cases he : encR x = (nums l, 0)
    · rw [if_pos he]
      refine .inr ⟨x, rfl, ?_, V5 hp, ?_, by omega⟩
      · unfold encR at he
        split at he
        · assumption
        · injection he with _ h2; cases h2
      · rcases yV x with h | h | h <;> rw [h] at he <;> injection he with h1 h2
        · cases h2
        · cases h2
        · exact MP h1
    · rw [if_neg he]; exact .inl ⟨(by decide : (70 : Int) ≠ 0), rfl⟩
theorem PV {x : SRec} (hs : jL x = true) (hk : vU x) (hl : (recE x).length ≤ 60000) : decR (recE x) = (x, 0) := by
  unfold decR
  have h1 := IA x [] hs hk
  rw [List.append_nil] at h1
  rw [if_neg (by omega), h1]
  simp only
  rw [if_pos]
  unfold encR
  rw [if_pos hs, if_neg (by omega)]
theorem QO {x : SRec} (hs : jL x = true) (hk : vU x) (t : List UInt8) (ht : t ≠ []) : (decR (recE x ++ t)).2 ≠ 0 := by
  rcases QF (recE x ++ t) with h | ⟨y, h, hy, hyk, he, _⟩
  · exact h.1
  · have := QU x y t [] hs hk hy hyk (by rw [List.append_nil, he])
    exact absurd this.2 ht
theorem RD {x : SRec} (hs : jL x = true) (hk : vU x) (l t : List UInt8) (ht : t ≠ []) (h : recE x = l ++ t) : (decR l).2 ≠ 0 := by
  rcases QF l with h1 | ⟨y, h1, hy, hyk, he, _⟩
  · exact h1.1
  · have := QU x y [] t hs hk hy hyk (by rw [List.append_nil, h, he])
    exact absurd this.2.symm ht
end Go.Proofs.YtgfkgppomaapiaaDoor.K
end

section
namespace Go.Proofs.YtgfkgppomaapiaaDoor.K
open RowKit YtgfkgppomaapiaaDoorW.PrintWords YtgfkgppomaapiaaDoorW.PrintLast YtgfkgppomaapiaaDoorW.PrintMore My
def hvF (l : List jK) : Nat := lW (fun f => 1 + f.f0.length) l
def hvE (l : List jG) : Nat := lW (fun e => 1 + hvF e.f1) l
def hvR (r : SRec) : Nat := r.f3.length + r.f5.f1.length + hvF r.f4 + hvE r.f8
theorem I8 {α : Type} {f g : α → Nat} (h : ∀ x, f x ≤ g x) : ∀ l : List α, lW f l ≤ lW g l
  | [] => Nat.le_refl _
  | x :: l => by rw [lC, lC]; have := h x; have := I8 h l; omega
theorem mY {α : Type} (c : Nat) : ∀ l : List α, lW (fun _ => c) l = c * l.length
  | [] => rfl
  | x :: l => by rw [lC, mY c l, List.length_cons, Nat.mul_succ]; omega
theorem JI {α : Type} (c : Nat) (g : α → Nat) : ∀ l : List α, lW (fun x => c * g x) l = c * lW g l
  | [] => rfl
  | x :: l => by rw [lC, lC, JI c g l, Nat.mul_add]
theorem uP {α : Type} (g : α → Nat) : ∀ (n : Nat) (l : List α), lW g (l.take n) ≤ lW g l
  | 0, l => Nat.zero_le _
  | n + 1, [] => Nat.le_refl _
  | n + 1, x :: l => by rw [List.take_succ_cons, lC, lC]; have := uP g n l; omega
theorem OZ (l : List Int) : lW wtI l = l.length := (mY 1 l).trans (by omega)
theorem UI (l : List jK) : hvF l ≤ lW wtF l := I8 (fun f => by unfold wtF; rw [OZ]; omega) l
theorem WM (l : List jG) : hvE l ≤ lW wtE l := I8 (fun e => by unfold wtE; have := UI e.f1; omega) l
theorem VZ (r : SRec) : hvR r ≤ wtR r := by
  unfold hvR wtR
  rw [OZ]
  have h1 := UI r.f4
  have h2 := WM r.f8
  have h3 : lW wtS r.f5.f1 = 3 * r.f5.f1.length := mY 3 _
  omega
theorem U5 (f : jK) (l : List jK) : hvF (f :: l) = 1 + f.f0.length + hvF l := lC _ _ _
theorem MV (e : jG) (l : List jG) : hvE (e :: l) = 1 + hvF e.f1 + hvE l := lC _ _ _
theorem w64s {x : Int} (h0 : -9223372036854775808 ≤ x) (h1 : x < 9223372036854775808) : wrap64 x = x := by unfold wrap64; omega
theorem RX (l : List jK) (hn : l.length ≤ 9223372036854775807) (d : Nat) : ∀ i x : Int, 0 ≤ i → i ≤ l.length → (l.length : Int) - i = d → 0 ≤ x → x + hvF (l.drop i.toNat) < 9223372036854775808 → Ev (fun k => stratumlaw07_heavy.l0 k l x i) (x + hvF (l.drop i.toNat)) := by
  induction d with
  | zero =>
    intro i x h0 h1 hd hx hb
    rw [show x + (hvF (l.drop i.toNat) : Int) = x from by rw [List.drop_of_length_le (by omega)]; show x + ((0 : Nat) : Int) = x; omega]
    exact Ev.step (f := fun _ => some x) (fun k => by simp only [stratumlaw07_heavy.l0]; rw [if_neg (by omega)]) (Ev.now _)
  | succ d ih =>
    intro i x h0 h1 hd hx hb
    have hlt : i < (l.length : Int) := by omega
    have hc : hvF (l.drop i.toNat) = 1 + (iU l i).f0.length + hvF (l.drop (i + 1).toNat) := by
      rw [pI z139 l i (by omega) h0, U5]
      rfl
    rw [hc] at hb ⊢
    have hv := ih (i + 1) (x + (1 + ((iU l i).f0.length : Int))) (by omega) (by omega) (by omega) (by omega) (by omega)
    rw [show x + (1 + ((iU l i).f0.length : Int)) + (hvF (l.drop (i + 1).toNat) : Int) = x + ((1 + (iU l i).f0.length + hvF (l.drop (i + 1).toNat) : Nat) : Int) from by omega] at hv
    exact Ev.step (fun k => by simp only [stratumlaw07_heavy.l0]; rw [if_pos hlt, if_pos h0, mV h0 hlt hn, w64s (x := 1 + ((iU l i).f0.length : Int)) (by omega) (by omega), w64s (by omega) (by omega)]) hv
theorem PG (l : List jK) (hn : l.length ≤ 9223372036854775807) (hb : hvF l < 9223372036854775808) : Ev (fun k => stratumlaw07_heavy.f k l) (hvF l : Int) := by
  have := RX l hn l.length 0 0 (by omega) (by omega) (by omega) (by omega) (by rw [Int.toNat_zero, List.drop_zero]; omega)
  rw [Int.toNat_zero, List.drop_zero, Int.zero_add] at this
  exact this
theorem RS (a0 a1 a2 : Int) (l3 : List Int) (l4 : List jK) (a5 : Int) (l6 : List jW) (a7 a8 : Int) (l9 : List jG) (hn : l9.length ≤ 9223372036854775807) (hf : ∀ e ∈ l9, e.f1.length ≤ 9223372036854775807) (d : Nat) : ∀ i x : Int, 0 ≤ i → i ≤ l9.length → (l9.length : Int) - i = d → 0 ≤ x → x + hvE (l9.drop i.toNat) < 9223372036854775808 →
    Ev (fun k => stratumlaw07_Heavy.l0 k x i a0 a1 a2 l3 l4 a5 l6 a7 a8 l9) (x + hvE (l9.drop i.toNat)) := by
  induction d with
  | zero =>
    intro i x h0 h1 hd hx hb
    rw [show x + (hvE (l9.drop i.toNat) : Int) = x from by rw [List.drop_of_length_le (by omega)]; show x + ((0 : Nat) : Int) = x; omega]
    exact Ev.step (f := fun _ => some x) (fun k => by simp only [stratumlaw07_Heavy.l0]; rw [if_neg (by omega)]) (Ev.now _)
  | succ d ih =>
    intro i x h0 h1 hd hx hb
    have hlt : i < (l9.length : Int) := by omega
    have hm : iV l9 i ∈ l9 := by
      unfold iV
      rw [List.getD_eq_getElem?_getD, List.getElem?_eq_getElem (show i.toNat < l9.length by omega)]
      exact List.getElem_mem _
    have hc : hvE (l9.drop i.toNat) = 1 + hvF (iV l9 i).f1 + hvE (l9.drop (i + 1).toNat) := by
      rw [pI z86 l9 i (by omega) h0, MV]
      rfl
    rw [hc] at hb ⊢
    have hu := PG _ (hf _ hm) (by omega)
    have hv := ih (i + 1) (x + (1 + (hvF (iV l9 i).f1 : Int))) (by omega) (by omega) (by omega) (by omega) (by omega)
    rw [show x + (1 + (hvF (iV l9 i).f1 : Int)) + (hvE (l9.drop (i + 1).toNat) : Int) = x + ((1 + hvF (iV l9 i).f1 + hvE (l9.drop (i + 1).toNat) : Nat) : Int) from by omega] at hv
    rw [← w64s (x := x + (1 + (hvF (iV l9 i).f1 : Int))) (by omega) (by omega), ← w64s (x := 1 + (hvF (iV l9 i).f1 : Int)) (by omega) (by omega)] at hv
    exact Ev.step (fun k => by simp only [stratumlaw07_Heavy.l0]; rw [if_pos hlt, if_pos h0, mV h0 hlt hn]) (Ev.bind hu hv)
theorem VK (a0 a1 a2 : Int) (l3 : List Int) (l4 : List jK) (a5 : Int) (l6 : List jW) (a7 a8 : Int) (l9 : List jG) (h : QW l3 l4 l6 l9) (hb : l3.length + l6.length + hvF l4 + hvE l9 < 9223372036854775808) : Ev (fun k => stratumlaw07_Heavy.f k a0 a1 a2 l3 l4 a5 l6 a7 a8 l9) ((l3.length + l6.length + hvF l4 + hvE l9 : Nat) : Int) := by
  have hu := PG l4 h.n4 (by omega)
  have hv := RS a0 a1 a2 l3 l4 a5 l6 a7 a8 l9 h.n9 (fun e he => (h.f9 e he).1) l9.length 0 ((l3.length : Int) + (l6.length : Int) + (hvF l4 : Int)) (by omega) (by omega) (by omega) (by omega) (by rw [Int.toNat_zero, List.drop_zero]; omega)
  rw [Int.toNat_zero, List.drop_zero] at hv
  rw [show (l3.length : Int) + (l6.length : Int) + (hvF l4 : Int) + (hvE l9 : Int) = ((l3.length + l6.length + hvF l4 + hvE l9 : Nat) : Int) from by omega] at hv
  rw [← w64s (x := (l3.length : Int) + (l6.length : Int) + (hvF l4 : Int)) (by omega) (by omega), ← w64s (x := (l3.length : Int) + (l6.length : Int)) (by omega) (by omega)] at hv
  exact Ev.bind hu hv
theorem nX {α β : Type} (f : α → List β) (g : α → Nat) (h : ∀ x, (f x).length ≤ g x) : ∀ l : List α, (l.flatMap f).length ≤ lW g l
  | [] => Nat.le_refl _
  | x :: l => by rw [List.flatMap_cons, List.length_append, lC]; have := h x; have := nX f g h l; omega
theorem OY (f : jK) : (mJ (xO f)).length ≤ 9 * (1 + f.f0.length) := by
  unfold mJ xO
  simp only [List.length_append, iP]
  have h1 := nX (fun x : Int => layB x 4) (fun _ => 4) (fun x => by rw [iP]; exact Nat.le_refl _) ((f.f0.take 4).map capV)
  rw [mY, List.length_map, List.length_take] at h1
  omega
theorem zL (l : List jK) : (jY (nJ l)).length ≤ 4 + 9 * hvF l := by
  unfold jY nJ
  rw [List.length_append, iP, List.flatMap_map]
  have h1 := nX (fun f => mJ (xO f)) (fun f => 9 * (1 + f.f0.length)) OY (l.take 60)
  have h2 := uP (fun f : jK => 9 * (1 + f.f0.length)) 60 l
  rw [JI 9 (fun f : jK => 1 + f.f0.length) l] at h2
  unfold hvF
  omega
theorem PS : ∀ (l : List jG) (last : Int), ((entM last l).flatMap kQ).length ≤ 9 * hvE l
  | [], _ => Nat.zero_le _
  | e :: l, last => by
    rw [entM, List.flatMap_cons, List.length_append, MV]
    have h1 := PS l ((last + (1 + Int.tmod e.f0 1000)) % 4294967296)
    have h2 := zL e.f1
    have h3 : (kQ ⟨(last + (1 + Int.tmod e.f0 1000)) % 4294967296, nJ e.f1⟩).length = 4 + (jY (nJ e.f1)).length := by
      unfold kQ
      rw [List.length_append, iP]
    omega
theorem TI (kind id at_ nodes : Int) (facts : List jK) (spans : List Int) (from_ to_ : Int) (entries : List jG) : (recE (xM kind id at_ nodes facts spans from_ to_ entries)).length ≤ 300 + 9 * (hvF facts + hvE entries) := by
  have hn : (kY (qO nodes)).length ≤ 7 := by
    unfold kY
    rw [List.length_append, iP]
    have h1 := nX (fun x : Int => layB x 1) (fun _ => 1) (fun x => by rw [iP]; exact Nat.le_refl _) (qO nodes)
    rw [mY] at h1
    have h2 : (qO nodes).length ≤ 6 := List.length_filter_le _ _
    omega
  have hs : (xA (rO spans)).length ≤ 201 := by
    unfold xA
    rw [List.length_append, iP]
    have h1 := nX mG (fun _ => 5) (fun x => by unfold mG; rw [List.length_append, iP, iP]; exact Nat.le_refl _) (rO spans)
    rw [mY] at h1
    have h2 : (rO spans).length ≤ 40 := by unfold rO; rw [List.length_map, List.length_take]; omega
    omega
  have hf := zL facts
  have he : (jT (nZ entries)).length ≤ 4 + 9 * hvE entries := by
    unfold jT nZ
    rw [List.length_append, iP]
    have h1 := PS (entries.take 50) 0
    have h2 := uP (fun e : jG => 1 + hvF e.f1) 50 entries
    unfold hvE at h1 ⊢
    omega
  unfold xM
  simp only
  generalize (1 + Int.tmod kind 7) % 256 = k
  by_cases h1 : k = 1
  · subst h1
    rw [if_pos rfl]
    show (layB 1 1 ++ (layB id 4 ++ (kY (qO nodes) ++ jY (nJ facts)))).length ≤ _
    simp only [List.length_append, iP]
    omega
  rw [if_neg h1]
  by_cases h2 : k = 2
  · subst h2
    rw [if_pos rfl]
    show (layB 2 1 ++ (layB id 4 ++ (layB at_ 4 ++ kY (qO nodes)))).length ≤ _
    simp only [List.length_append, iP]
    omega
  rw [if_neg h2]
  by_cases h6 : k = 6
  · subst h6
    rw [if_pos rfl]
    show (layB 6 1 ++ (layB 0 4 ++ (layB at_ 4 ++ xA (rO spans)))).length ≤ _
    simp only [List.length_append, iP]
    omega
  rw [if_neg h6]
  by_cases h7 : k = 7
  · subst h7
    rw [if_pos rfl]
    show (layB 7 1 ++ (layB id 4 ++ (layB (Int.tmod (wrap64 from_) 10001) 4 ++ (layB (Int.tmod (wrap64 to_) 10001) 4 ++ jT (nZ entries))))).length ≤ _
    simp only [List.length_append, iP]
    omega
  rw [if_neg h7]
  unfold recE yK
  simp only [h1, h2, h6, h7, if_false, List.length_append, iP, List.length_nil]
  omega
theorem QK {l : List UInt8} (hl : l.length ≤ 60000) (h : (decR l).2 ≠ 0) : decR l = (jF, 70) := by
  unfold decR at h ⊢
  rw [if_neg (by omega)] at h ⊢
  cases hp : recP l with
  | none => rfl
  | some y =>
    obtain ⟨x, t⟩ := y
    rw [hp] at h
    simp only at h ⊢
    by_cases he : encR x = (nums l, 0)
    · rw [if_pos he] at h; exact absurd rfl h
    · rw [if_neg he]
structure nR (x : SRec) : Prop where
  sound : jL x = true
  ok : vU x
  len : (recE x).length ≤ 59999
theorem nR.enc {x : SRec} (h : nR x) : encR x = (nums (recE x), 0) := by
  unfold encR
  rw [if_pos h.sound, if_neg (by have := h.len; omega)]
theorem nR.back {x : SRec} (h : nR x) : decR (recE x) = (x, 0) := PV h.sound h.ok (by have := h.len; omega)
theorem nR.more {x : SRec} (h : nR x) (c : UInt8) : decR (recE x ++ [c]) = (jF, 70) :=
  QK (by rw [List.length_append, List.length_singleton]; have := h.len; omega) (QO h.sound h.ok [c] (by simp))
theorem VA (x : SRec) : 5 ≤ (recE x).length := by
  unfold recE
  simp only [List.length_append, iP]
  omega
theorem nR.less {x : SRec} (h : nR x) (n : Nat) (hn : (recE x).length = n + 1) : decR ((recE x).take n) = (jF, 70) :=
  QK (by rw [List.length_take]; have := h.len; omega) (RD h.sound h.ok ((recE x).take n) ((recE x).drop n) (fun e => by have := congrArg List.length e; rw [List.length_drop, List.length_nil] at this; omega) (List.take_append_drop n _).symm)
theorem nR.same {x : SRec} (h : nR x) : ∃ k, stratumref07_Same.f k x.f0 x.f1 x.f2 x.f3 x.f4 x.f5.f0 x.f5.f1 x.f6 x.f7 x.f8 x.f0 x.f1 x.f2 x.f3 x.f4 x.f5.f0 x.f5.f1 x.f6 x.f7 x.f8 = some true := by
  obtain ⟨t, h1, h2⟩ := VF x x (yX x h.sound) (yX x h.sound)
  obtain ⟨k, hk⟩ := h1.rounds
  rw [h2.2 ⟨rfl, rfl, rfl, rfl, rfl, rfl, rfl, ⟨rfl, rfl⟩, rfl⟩] at hk
  exact ⟨k, hk⟩
end Go.Proofs.YtgfkgppomaapiaaDoor.K
end

section
namespace Go.Proofs.YtgfkgppomaapiaaDoor.K
open RowKit YtgfkgppomaapiaaDoorW.PrintWords YtgfkgppomaapiaaDoorW.PrintLast YtgfkgppomaapiaaDoorW.PrintMore My
theorem TB {w : World} {r : SRec} {A3 A4 A6 A9 : Option Addr} {a3 a4 a6 a9 : Nat} (h : Lies w r A3 a3 A4 a4 A6 a6 A9 a9) (hb : hvR r < 9223372036854775808) : Calls Tryd.prog 15 #[.agg #[.int .u8 r.f0, .int .u32 r.f1, .int .u32 r.f2, .slice A3 r.f3.length a3, .slice A4 r.f4.length a4, .int .u32 r.f5.f0, .slice A6 r.f5.f1.length a6, .int .i64 r.f6, .int .i64 r.f7, .slice A9 r.f8.length a9]] w fun e w' => e = .returned (.int .i64 (hvR r : Int)) ∧ Below w.heap.size w w' := by
  obtain ⟨k, hk⟩ := (VK r.f0 r.f1 r.f2 r.f3 r.f4 r.f5.f0 r.f5.f1 r.f6 r.f7 r.f8 (oH h.h3 h.h4 h.h6 h.h9) hb).rounds
  exact stratumlaw07_Heavy.calls k r.f0 r.f1 r.f2 A3 a3 r.f3 A4 a4 r.f4 r.f5.f0 A6 a6 r.f5.f1 r.f6 r.f7 A9 a9 r.f8 _ w h.h3 h.d3 h.h4 h.d4 h.h6 h.d6 h.h9 h.d9 hk
theorem vX {base : Nat} {x : SRec} {v : Value} {w : World} (h : RecV base x v w) : ∃ A3 a3 A4 a4 A6 a6 A9 a9, v = .agg #[.int .u8 x.f0, .int .u32 x.f1, .int .u32 x.f2, .slice A3 x.f3.length a3, .slice A4 x.f4.length a4, .int .u32 x.f5.f0, .slice A6 x.f5.f1.length a6, .int .i64 x.f6, .int .i64 x.f7, .slice A9 x.f8.length a9] ∧ Lies w x A3 a3 A4 a4 A6 a6 A9 a9 := by
  obtain ⟨v3, v4, v6, v9, rfl, h3, h4, h6, h9⟩ := h
  obtain ⟨A3, a3, rfl⟩ := Kd.R_slice h3
  obtain ⟨A4, a4, rfl⟩ := Kd.R_slice h4
  obtain ⟨A6, a6, rfl⟩ := Kd.R_slice h6
  obtain ⟨A9, a9, rfl⟩ := Kd.R_slice h9
  obtain ⟨_, q3, C3⟩ := Kd.R_reads' h3
  obtain ⟨_, q4, C4⟩ := Kd.R_reads' h4
  obtain ⟨_, q6, C6⟩ := Kd.R_reads' h6
  obtain ⟨_, q9, C9⟩ := Kd.R_reads' h9
  exact ⟨A3, a3, A4, a4, A6, a6, A9, a9, rfl, C3, q3, C4, q4, C6, q6, C9, q9⟩
theorem MJ {w : World} {A : Option Addr} {n : Nat} {l : List UInt8} (h : kb.C w A n l) : (Kd.int .u8).C w A n (nums l) := by
  refine ⟨by rw [jH]; exact h.1, h.2.1, fun hn => ?_⟩
  obtain ⟨ad, e, hc⟩ := h.2.2 hn
  refine ⟨ad, e, fun j p hj => ?_⟩
  unfold nums at hj
  rw [List.getElem?_map] at hj
  obtain ⟨b, hb, rfl⟩ := Option.map_eq_some_iff.1 hj
  exact hc j b hb
theorem MZ : (Tryd.prog.info? 5).map (fun i => (i.zero, i.size, i.bytes)) = some (some (.int .u8 0), (Kd.int .u8).sz, 1) := by kernel_rfl
theorem X3 (w : World) (x : Int) (B : Nat) (hB : B < w.heap.size) : (Kd.int .u8).C (w.alloc (.cells #[.int .u8 x] 5)) (some ⟨w.heap.size, 0, none⟩) 1 [x] := by
  obtain ⟨_, _, C⟩ := Kd.R_reads' (IR w w.heap.size x B (Nat.le_refl _) hB)
  exact C
attribute [-go_sem] Instr.storeAt
set_option maxRecDepth 20000 in
set_option maxHeartbeats 16000000 in
theorem I9 (r : SRec) (A3 : Option Addr) (a3 : Nat) (A4 : Option Addr) (a4 : Nat) (A6 : Option Addr) (a6 : Nat) (A9 : Option Addr) (a9 : Nat) (kind nodes : Int) (A5 : Option Addr) (a5 : Nat) (l5 : List Int) (kc : UInt8) (w : World) (g : Lies w r A3 a3 A4 a4 A6 a6 A9 a9) (g5 : (Kd.int .u16).C w A5 l5.length l5) (q5 : l5.length ≤ a5)
    (hfr : ∀ e ∈ r.f8, e.f1.length ≤ 9223372036854775807) (X : SRec) (hX : xM kind r.f1 r.f2 nodes r.f4 l5 (IntKind.u16.wrap (Int.tmod r.f6 65536)) (IntKind.u16.wrap (Int.tmod r.f7 65536)) r.f8 = X) (hb63 : hvR r < 9223372036854775808) (v : Int) (hvr : (hvR r : Int) = v) (hsh : ¬ v > 3000 → nR X) :
    Calls Tryd.prog 4 #[.agg #[.int .u8 r.f0, .int .u32 r.f1, .int .u32 r.f2, .slice A3 r.f3.length a3, .slice A4 r.f4.length a4, .int .u32 r.f5.f0, .slice A6 r.f5.f1.length a6, .int .i64 r.f6, .int .i64 r.f7, .slice A9 r.f8.length a9], .int .u8 kind, .int .u8 nodes, .slice A5 l5.length a5, .int .u8 (kc.toNat : Int)] w fun e w' => e = .returned (.bool true) ∧ Below w.heap.size w w' := by
  have hbw : Below w.heap.size w (w.alloc (.cells #[.int .u8 r.f0, .int .u32 r.f1, .int .u32 r.f2, .slice A3 r.f3.length a3, .slice A4 r.f4.length a4, .int .u32 r.f5.f0, .slice A6 r.f5.f1.length a6, .int .i64 r.f6, .int .i64 r.f7, .slice A9 r.f8.length a9] 30)) := iF (Below.refl _ _) _
  have HXB := iD.mk (show (w.alloc (.cells #[.int .u8 r.f0, .int .u32 r.f1, .int .u32 r.f2, .slice A3 r.f3.length a3, .slice A4 r.f4.length a4, .int .u32 r.f5.f0, .slice A6 r.f5.f1.length a6, .int .i64 r.f6, .int .i64 r.f7, .slice A9 r.f8.length a9] 30)).heap[w.heap.size]? = some (.cells #[.int .u8 r.f0, .int .u32 r.f1, .int .u32 r.f2, .slice A3 r.f3.length a3, .slice A4 r.f4.length a4, .int .u32 r.f5.f0, .slice A6 r.f5.f1.length a6, .int .i64 r.f6, .int .i64 r.f7, .slice A9 r.f8.length a9] 30 (0, 0)) from jA rfl)
  have hheavy := TB (g.below hbw) hb63
  rw [hvr] at hheavy
  have G := iD.mk g; have G5 := iD.mk g5; have HFR := iD.mk hfr; have HMX := iD.mk hX; have HSH := iD.mk hsh; have HB0 := iD.mk hbw
  have hknown := fun w => stratumlaw07_known.calls true w rfl
  clear g g5 hfr hX hsh hb63 hvr hbw
  go_enter Tryd.func4, Tryd.ntmps4
  obtain ⟨xz0, xz1, xz2, xz3, xz4, xz5, xz6, xz7, xz8, xz9, xy0, xy1, xy2, xy3, xy4, xy5, xy6, xy7, xy8, xy9⟩ := ten (HXB.out)
  go_wp2_with fail
  go_at_call 15
  (with_reducible refine hheavy.mono ?_)
  clear xz0 xz1 xz2 xz3 xz4 xz5 xz6 xz7 xz8 xz9 xy0 xy1 xy2 xy3 xy4 xy5 xy6 xy7 xy8 xy9
  clear hheavy
  rintro e w1 ⟨rfl, hb1⟩
  have HB1 := iD.mk (iL HB0.out hb1)
  have HX1 := iD.mk (iO hb1 HXB.out)
  clear hb1 HB0 HXB
  by_cases hv : v > 3000
  · go_wp2_with fail
    go_at_call 16
    (with_reducible refine (hknown _).mono ?_)
    rintro e wk ⟨rfl, hbk⟩
    clear hknown
    go_wp2_with fail
    go_ret
    exact ⟨rfl, iL HB1.out hbk⟩
  have SH := iD.mk (HSH.out (by omega))
  obtain ⟨L, hL⟩ : ∃ L, recE X = L := ⟨_, rfl⟩
  obtain ⟨n, hn⟩ : ∃ n, L.length = n + 1 := ⟨L.length - 1, by have := VA X; rw [hL] at this; omega⟩
  have hnb : n ≤ 59998 := by have := SH.out.len; rw [hL] at this; omega
  have HE := iD.mk (show encR X = (nums L, 0) from by rw [← hL]; exact SH.out.enc)
  have HBK := iD.mk (show decR L = (X, 0) from by rw [← hL]; exact SH.out.back)
  have HMO := iD.mk (show decR (L ++ [kc]) = (jF, 70) from by rw [← hL]; exact SH.out.more kc)
  have HLE := iD.mk (show decR (L.take n) = (jF, 70) from by rw [← hL]; exact SH.out.less n (by rw [hL]; exact hn))
  have HN := iD.mk hn
  clear hL hn HSH
  go_wp2_with fail
  go_at_call 16
  (with_reducible refine (hknown _).mono ?_)
  rintro e w2 ⟨rfl, hb2⟩
  clear hknown
  have HB2 := iD.mk (iL HB1.out hb2)
  have HX2 := iD.mk (iO hb2 HX1.out)
  clear hb2 HB1 HX1
  obtain ⟨xz0, xz1, xz2, xz3, xz4, xz5, xz6, xz7, xz8, xz9, xy0, xy1, xy2, xy3, xy4, xy5, xy6, xy7, xy8, xy9⟩ := ten (HX2.out)
  have hcall := TL kind r.f1 r.f2 nodes r.f4 l5 (IntKind.u16.wrap (Int.tmod r.f6 65536)) (IntKind.u16.wrap (Int.tmod r.f7 65536)) r.f8 (Kd.C_below G.out.h4 HB2.out) G.out.d4 (Kd.C_below G5.out HB2.out) q5 (Kd.C_below G.out.h9 HB2.out) G.out.d9 HFR.out HMX.out
  go_wp2_with fail
  go_at_call 21
  (with_reducible refine hcall.mono ?_)
  clear xz0 xz1 xz2 xz3 xz4 xz5 xz6 xz7 xz8 xz9 xy0 xy1 xy2 xy3 xy4 xy5 xy6 xy7 xy8 xy9
  clear hcall
  rintro e w3 ⟨C3, c3, C4, c4, C6, c6, C9, c9, rfl, l3, hb3⟩
  have hba : Below w3.heap.size w3 (w3.alloc (.cells #[.int .u8 X.f0, .int .u32 X.f1, .int .u32 X.f2, .slice C3 X.f3.length c3, .slice C4 X.f4.length c4, .int .u32 X.f5.f0, .slice C6 X.f5.f1.length c6, .int .i64 X.f6, .int .i64 X.f7, .slice C9 X.f8.length c9] 30)) := iF (Below.refl _ _) _
  have hbb := hb3.trans (hba.mono hb3.size)
  have HB3 := iD.mk (iL HB2.out hbb)
  have LX3 := iD.mk (l3.below hba)
  have HP3 := iD.mk (show (w3.alloc (.cells #[.int .u8 X.f0, .int .u32 X.f1, .int .u32 X.f2, .slice C3 X.f3.length c3, .slice C4 X.f4.length c4, .int .u32 X.f5.f0, .slice C6 X.f5.f1.length c6, .int .i64 X.f6, .int .i64 X.f7, .slice C9 X.f8.length c9] 30)).heap[w3.heap.size]? = some (.cells #[.int .u8 X.f0, .int .u32 X.f1, .int .u32 X.f2, .slice C3 X.f3.length c3, .slice C4 X.f4.length c4, .int .u32 X.f5.f0, .slice C6 X.f5.f1.length c6, .int .i64 X.f6, .int .i64 X.f7, .slice C9 X.f8.length c9] 30 (0, 0)) from jA rfl)
  have hsx := fun (_ : True) => run_storeAt_new (P := Tryd.prog) w3 30 #[.int .u8 0, .int .u32 0, .int .u32 0, .slice none 0 0, .slice none 0 0, .int .u32 0, .slice none 0 0, .int .i64 0, .int .i64 0, .slice none 0 0] #[.int .u8 X.f0, .int .u32 X.f1, .int .u32 X.f2, .slice C3 X.f3.length c3, .slice C4 X.f4.length c4, .int .u32 X.f5.f0, .slice C6 X.f5.f1.length c6, .int .i64 X.f6, .int .i64 X.f7, .slice C9 X.f8.length c9] (by kernel_rfl) rfl (by simp [Value.oneCell'])
  clear l3 hba hbb hb3 HB2 HX2 G G5 HFR HMX
  have hcall := LQ LX3.out HE.out
  obtain ⟨xz0, xz1, xz2, xz3, xz4, xz5, xz6, xz7, xz8, xz9, xy0, xy1, xy2, xy3, xy4, xy5, xy6, xy7, xy8, xy9⟩ := ten (HP3.out)
  go_wp2_with fail
  go_at_call 17
  (with_reducible refine hcall.mono ?_)
  clear xz0 xz1 xz2 xz3 xz4 xz5 xz6 xz7 xz8 xz9 xy0 xy1 xy2 xy3 xy4 xy5 xy6 xy7 xy8 xy9
  clear hcall hsx
  rintro e w4 ⟨va, rfl, hra, hb4⟩
  obtain ⟨Aa, ca, rfl⟩ := Kd.R_slice hra
  obtain ⟨_, qa, Ca⟩ := Kd.R_reads' hra
  rw [jH, HN.out] at Ca qa
  have HB4 := iD.mk (iL HB3.out hb4)
  have LX4 := iD.mk (LX3.out.below hb4); have HP4 := iD.mk (iO hb4 HP3.out); have HRA4 := iD.mk hra; have HC4 := iD.mk Ca
  rw [jH, HN.out] at HRA4 ⊢
  clear hra hb4 HB3 LX3 HP3 Ca
  have hcall : Calls Tryd.prog 18 #[.agg #[.int .u8 X.f0, .int .u32 X.f1, .int .u32 X.f2, .slice C3 X.f3.length c3, .slice C4 X.f4.length c4, .int .u32 X.f5.f0, .slice C6 X.f5.f1.length c6, .int .i64 X.f6, .int .i64 X.f7, .slice C9 X.f8.length c9]] w4 (oK w4 (encR X)) := zO X.f0 X.f1 X.f2 C3 c3 X.f3 C4 c4 X.f4 X.f5.f0 C6 c6 X.f5.f1 X.f6 X.f7 C9 c9 X.f8 w4 LX4.out.h3 LX4.out.d3 LX4.out.h4 LX4.out.d4 LX4.out.h6 LX4.out.d6 LX4.out.h9 LX4.out.d9
  rw [HE.out] at hcall
  obtain ⟨xz0, xz1, xz2, xz3, xz4, xz5, xz6, xz7, xz8, xz9, xy0, xy1, xy2, xy3, xy4, xy5, xy6, xy7, xy8, xy9⟩ := ten (HP4.out)
  go_wp2_with fail
  go_at_call 18
  (with_reducible refine hcall.mono ?_)
  clear xz0 xz1 xz2 xz3 xz4 xz5 xz6 xz7 xz8 xz9 xy0 xy1 xy2 xy3 xy4 xy5 xy6 xy7 xy8 xy9
  clear hcall
  rintro e w5 ⟨vb, rfl, hrb, hb5⟩
  dsimp only at hrb ⊢
  obtain ⟨Ab, cb, rfl⟩ := Kd.R_slice hrb
  have HB5 := iD.mk (iL HB4.out hb5)
  have LX5 := iD.mk (LX4.out.below hb5); have HP5 := iD.mk (iO hb5 HP4.out); have HRA5 := iD.mk (Kd.R_below HRA4.out hb5); have HC5 := iD.mk (Kd.C_below HC4.out hb5); have HRB5 := iD.mk hrb
  rw [jH, HN.out] at HRB5 ⊢
  clear hrb hb5 HB4 LX4 HP4 HRA4 HC4
  have hdec := decode_any Aa ca L w5 (by rw [HN.out]; exact HC5.out) (by rw [HN.out]; exact qa)
  rw [HN.out, HBK.out] at hdec
  go_wp2_with fail
  go_at_call 22
  refine hdec.mono ?_
  rintro e w6 ⟨vy, rfl, hy, hb6⟩
  obtain ⟨D3, d3, D4, d4, D6, d6, D9, d9, rfl, ly⟩ := vX hy
  dsimp only at ly ⊢
  have hba : Below w6.heap.size w6 (w6.alloc (.cells #[.int .u8 X.f0, .int .u32 X.f1, .int .u32 X.f2, .slice D3 X.f3.length d3, .slice D4 X.f4.length d4, .int .u32 X.f5.f0, .slice D6 X.f5.f1.length d6, .int .i64 X.f6, .int .i64 X.f7, .slice D9 X.f8.length d9] 30)) := iF (Below.refl _ _) _
  have hbb := hb6.trans (hba.mono hb6.size)
  have hsx := fun (_ : True) => run_storeAt_new (P := Tryd.prog) w6 30 #[.int .u8 0, .int .u32 0, .int .u32 0, .slice none 0 0, .slice none 0 0, .int .u32 0, .slice none 0 0, .int .i64 0, .int .i64 0, .slice none 0 0] #[.int .u8 X.f0, .int .u32 X.f1, .int .u32 X.f2, .slice D3 X.f3.length d3, .slice D4 X.f4.length d4, .int .u32 X.f5.f0, .slice D6 X.f5.f1.length d6, .int .i64 X.f6, .int .i64 X.f7, .slice D9 X.f8.length d9] (by kernel_rfl) rfl (by simp [Value.oneCell'])
  obtain ⟨w7, hw7⟩ : ∃ w7, w7 = w6.alloc (.cells #[.int .u8 X.f0, .int .u32 X.f1, .int .u32 X.f2, .slice D3 X.f3.length d3, .slice D4 X.f4.length d4, .int .u32 X.f5.f0, .slice D6 X.f5.f1.length d6, .int .i64 X.f6, .int .i64 X.f7, .slice D9 X.f8.length d9] 30) := ⟨_, rfl⟩
  have hlt7 : w6.heap.size < w7.heap.size := by rw [hw7]; simp
  have HQ7 := iD.mk (show w7.heap[w6.heap.size]? = some (.cells #[.int .u8 X.f0, .int .u32 X.f1, .int .u32 X.f2, .slice D3 X.f3.length d3, .slice D4 X.f4.length d4, .int .u32 X.f5.f0, .slice D6 X.f5.f1.length d6, .int .i64 X.f6, .int .i64 X.f7, .slice D9 X.f8.length d9] 30 (0, 0)) from by rw [hw7]; exact jA rfl)
  rw [← hw7] at hba hbb hsx
  have HB7 := iD.mk (iL HB5.out hbb)
  have LX7 := iD.mk (LX5.out.below hbb); have LY7 := iD.mk (ly.below hba); have HP7 := iD.mk (iO hbb HP5.out); have HRA7 := iD.mk (Kd.R_below HRA5.out hbb); have HC7 := iD.mk (Kd.C_below HC5.out hbb); have HRB7 := iD.mk (Kd.R_below HRB5.out hbb)
  clear hdec hy hb6 ly hba hbb hw7 hlt7 HB5 LX5 HP5 HRA5 HC5 HRB5
  go_wp2_with (first
    | (at_builtin; (refine Kd.R_append_rows (Kd.int .u8) (w0 := w7) w7.heap.size rfl (.tmp 74) (.tmp 75) 33 5 (.int .u8 0) 1 rfl Tryd.underlying33 MZ rfl (by decide) (by omega) (.slice none 0 0) [] (nums L) _ _ _ (fun _ => True) (fun _ => False) rfl rfl (Kd.R_nil _ _ _ _ _) HC7.out (fun _ _ h => h) (fun _ h => h.elim) (fun _ _ => trivial) (Below.refl _ _) (Nat.le_refl _) ?aL ?_; (case aL => (simp only [List.length_nil]; omega)); intro v1 w8 HO8 HB8 hg hat; clear hg hat; rw [List.nil_append] at HO8; obtain ⟨A8, c8, rfl⟩ := Kd.R_slice HO8; rw [jH, HN.out] at HO8 ⊢; have HR8 := iD.mk HO8; have HW8 := iD.mk HB8; clear HO8 HB8))
    | (at_builtin; refine Kd.R_append_rows (Kd.int .u8) (w0 := w7) w7.heap.size rfl (.tmp 77) (.tmp 79) 33 5 (.int .u8 0) 1 rfl Tryd.underlying33 MZ rfl (by decide) (by omega) (.slice A8 (n + 1) c8) (nums L) [(kc.toNat : Int)] _ _ _ (fun _ => True) (fun _ => False) rfl rfl (Kd.R_below HR8.out (iF (Below.refl _ _) _)) (X3 w8 _ w6.heap.size (jQ (iO HW8.out HQ7.out))) (fun _ _ h => h) (fun _ h => h.elim) (fun _ _ => trivial) (iF HW8.out _) (iF HW8.out _).size ?aL ?_; (case aL => (rw [jH, HN.out]; omega)); intro v2 w9 HO9 HB9 hg hat; clear hg hat; rw [show nums L ++ [(kc.toNat : Int)] = nums (L ++ [kc]) from (nums_append L [kc]).symm] at HO9; obtain ⟨A9', c9', rfl⟩ := Kd.R_slice HO9; rw [jH, show (L ++ [kc]).length = n + 2 from by rw [List.length_append, HN.out]; rfl] at HO9 ⊢; have HR9 := iD.mk HO9; have HW9 := iD.mk HB9; clear HO9 HB9 HR8 HW8)
    | fail)
  obtain ⟨_, q9, C9r⟩ := Kd.R_reads' HR9.out
  have hM : (L ++ [kc]).length = n + 2 := by rw [List.length_append, HN.out]; rfl
  have hdec := decode_any A9' c9' (L ++ [kc]) w9 (by rw [jH] at C9r; exact C9r) (by rw [hM]; exact q9)
  rw [hM, HMO.out] at hdec
  have HB9 := iD.mk (iL HB7.out HW9.out)
  have LX9 := iD.mk (LX7.out.below HW9.out); have LY9 := iD.mk (LY7.out.below HW9.out); have HP9 := iD.mk (iO HW9.out HP7.out); have HQ9 := iD.mk (iO HW9.out HQ7.out); have HRA9 := iD.mk (Kd.R_below HRA7.out HW9.out); have HC9 := iD.mk (Kd.C_below HC7.out HW9.out); have HRB9 := iD.mk (Kd.R_below HRB7.out HW9.out)
  clear hM q9 C9r HR9 HW9 HB7 LX7 LY7 HP7 HQ7 HRA7 HC7 HRB7 hsx
  go_at_call 22
  refine hdec.mono ?_
  rintro e wa ⟨vz, rfl, hz, hba⟩
  obtain ⟨Z3, z3, Z4, z4, Z6, z6, Z9, z9, rfl, _⟩ := vX hz
  dsimp only
  have hbn : Below wa.heap.size wa (wa.alloc (.cells #[.int .u8 jF.f0, .int .u32 jF.f1, .int .u32 jF.f2, .slice Z3 jF.f3.length z3, .slice Z4 jF.f4.length z4, .int .u32 jF.f5.f0, .slice Z6 jF.f5.f1.length z6, .int .i64 jF.f6, .int .i64 jF.f7, .slice Z9 jF.f8.length z9] 30)) := iF (Below.refl _ _) _
  have hbb := hba.trans (hbn.mono hba.size)
  have hsx := fun (_ : True) => run_storeAt_new (P := Tryd.prog) wa 30 #[.int .u8 0, .int .u32 0, .int .u32 0, .slice none 0 0, .slice none 0 0, .int .u32 0, .slice none 0 0, .int .i64 0, .int .i64 0, .slice none 0 0] #[.int .u8 jF.f0, .int .u32 jF.f1, .int .u32 jF.f2, .slice Z3 jF.f3.length z3, .slice Z4 jF.f4.length z4, .int .u32 jF.f5.f0, .slice Z6 jF.f5.f1.length z6, .int .i64 jF.f6, .int .i64 jF.f7, .slice Z9 jF.f8.length z9] (by kernel_rfl) rfl (by simp [Value.oneCell'])
  obtain ⟨wb, hwb⟩ : ∃ wb, wb = wa.alloc (.cells #[.int .u8 jF.f0, .int .u32 jF.f1, .int .u32 jF.f2, .slice Z3 jF.f3.length z3, .slice Z4 jF.f4.length z4, .int .u32 jF.f5.f0, .slice Z6 jF.f5.f1.length z6, .int .i64 jF.f6, .int .i64 jF.f7, .slice Z9 jF.f8.length z9] 30) := ⟨_, rfl⟩
  rw [← hwb] at hbb hsx
  have HBb := iD.mk (iL HB9.out hbb)
  have LXb := iD.mk (LX9.out.below hbb); have LYb := iD.mk (LY9.out.below hbb); have HPb := iD.mk (iO hbb HP9.out); have HQb := iD.mk (iO hbb HQ9.out); have HRAb := iD.mk (Kd.R_below HRA9.out hbb); have HCb := iD.mk (Kd.C_below HC9.out hbb); have HRBb := iD.mk (Kd.R_below HRB9.out hbb)
  have hcut := WP Aa (n + 1) ca n (n : Int) rfl (Nat.le_succ _) qa
  have hTn : (L.take n).length = n := by rw [List.length_take, HN.out]; omega
  clear hdec hz hba hbn hbb hwb HB9 LX9 LY9 HP9 HQ9 HRA9 HC9 HRB9
  have hdec := decode_any Aa ca (L.take n) wb (by rw [hTn]; exact MJ (U9 (by rw [HN.out]; exact uG HCb.out) n (by rw [HN.out]; omega))) (by rw [hTn]; omega)
  rw [hTn, HLE.out] at hdec
  clear hTn
  go_wp2_with fail
  go_at_call 22
  refine hdec.mono ?_
  clear hsx hcut hdec
  rintro e wc ⟨vt, rfl, hz, hbc⟩
  obtain ⟨Y3, y3, Y4, y4, Y6, y6, Y9, y9, rfl, _⟩ := vX hz
  dsimp only
  have hbn : Below wc.heap.size wc (wc.alloc (.cells #[.int .u8 jF.f0, .int .u32 jF.f1, .int .u32 jF.f2, .slice Y3 jF.f3.length y3, .slice Y4 jF.f4.length y4, .int .u32 jF.f5.f0, .slice Y6 jF.f5.f1.length y6, .int .i64 jF.f6, .int .i64 jF.f7, .slice Y9 jF.f8.length y9] 30)) := iF (Below.refl _ _) _
  have hbb := hbc.trans (hbn.mono hbc.size)
  have hsx := fun (_ : True) => run_storeAt_new (P := Tryd.prog) wc 30 #[.int .u8 0, .int .u32 0, .int .u32 0, .slice none 0 0, .slice none 0 0, .int .u32 0, .slice none 0 0, .int .i64 0, .int .i64 0, .slice none 0 0] #[.int .u8 jF.f0, .int .u32 jF.f1, .int .u32 jF.f2, .slice Y3 jF.f3.length y3, .slice Y4 jF.f4.length y4, .int .u32 jF.f5.f0, .slice Y6 jF.f5.f1.length y6, .int .i64 jF.f6, .int .i64 jF.f7, .slice Y9 jF.f8.length y9] (by kernel_rfl) rfl (by simp [Value.oneCell'])
  obtain ⟨wd, hwd⟩ : ∃ wd, wd = wc.alloc (.cells #[.int .u8 jF.f0, .int .u32 jF.f1, .int .u32 jF.f2, .slice Y3 jF.f3.length y3, .slice Y4 jF.f4.length y4, .int .u32 jF.f5.f0, .slice Y6 jF.f5.f1.length y6, .int .i64 jF.f6, .int .i64 jF.f7, .slice Y9 jF.f8.length y9] 30) := ⟨_, rfl⟩
  rw [← hwd] at hbb hsx
  have HBd := iD.mk (iL HBb.out hbb)
  have hsame := Q9 (LXb.out.below hbb) (LYb.out.below hbb) SH.out.same
  have HPd := iD.mk (iO hbb HPb.out); have HQd := iD.mk (iO hbb HQb.out)
  have q1 := IV (Kd.R_below HRAb.out hbb)
  have q2 := IV (Kd.R_below HRBb.out hbb)
  clear hz hbc hbn hbb hwd HBb LXb LYb HPb HQb HRAb HCb HRBb
  obtain ⟨xz0, xz1, xz2, xz3, xz4, xz5, xz6, xz7, xz8, xz9, xy0, xy1, xy2, xy3, xy4, xy5, xy6, xy7, xy8, xy9⟩ := ten (HPd.out)
  obtain ⟨wz0, wz1, wz2, wz3, wz4, wz5, wz6, wz7, wz8, wz9, wy0, wy1, wy2, wy3, wy4, wy5, wy6, wy7, wy8, wy9⟩ := ten (HQd.out)
  go_wp2_with fail
  go_at_call 23
  refine hsame.mono ?_
  rintro e we ⟨rfl, hbe⟩
  clear hsame hsx q1 q2
  go_wp2
  go_ret
  exact ⟨rfl, iL HBd.out hbe⟩
theorem codeMakes_walk (r : SRec) (cs : Array Value) (kind nodes : Int) (A5 : Option Addr) (a5 : Nat) (l5 : List Int) (c : Int) (W : World) (hr : WS W r cs.toList) (wr : RecW r) (hk : 0 ≤ kind ∧ kind < 256) (_ : 0 ≤ nodes ∧ nodes < 256) (h5 : (Kd.int .u16).C W A5 l5.length l5) (q5 : l5.length ≤ a5) (ok5 : ∀ v ∈ l5, 0 ≤ v ∧ v < 65536) (hc : 0 ≤ c ∧ c < 256) (hw : wtR r ≤ 1048576) (_ : lW wtI l5 + 1 ≤ 1048576) :
    Calls Tryd.prog 4 #[.agg cs, .int .u8 kind, .int .u8 nodes, .slice A5 l5.length a5, .int .u8 c] W fun e w' => e = .returned (.bool true) ∧ Below W.heap.size W w' := by
  obtain ⟨A3, a3, A4, a4, A6, a6, A9, a9, e, h3, d3, h4, d4, h6, d6, h9, d9⟩ := hr
  have e : cs = #[.int .u8 r.f0, .int .u32 r.f1, .int .u32 r.f2, .slice A3 r.f3.length a3, .slice A4 r.f4.length a4, .int .u32 r.f5.f0, .slice A6 r.f5.f1.length a6, .int .i64 r.f6, .int .i64 r.f7, .slice A9 r.f8.length a9] := by cases cs with | mk l => exact congrArg Array.mk e
  subst e
  obtain ⟨kc, rfl⟩ : ∃ kc : UInt8, c = (kc.toNat : Int) := ⟨UInt8.ofNat c.toNat, by rw [UInt8.toNat_ofNat']; omega⟩
  have hw2 := VZ r
  have u16 : ∀ x : Int, 0 ≤ IntKind.u16.wrap x ∧ IntKind.u16.wrap x < 65536 := fun x => by
    rw [show IntKind.u16.wrap x = x % 65536 by simp [IntKind.wrap, IntKind.bits, IntKind.signed]]
    exact ⟨Int.emod_nonneg _ (by decide), Int.emod_lt_of_pos _ (by decide)⟩
  exact I9 r A3 a3 A4 a4 A6 a6 A9 a9 kind nodes A5 a5 l5 kc W ⟨h3, d3, h4, d4, h6, d6, h9, d9⟩ h5 q5 (fun e he => ((oH h3 h4 h6 h9).f9 e he).1) _ rfl (by omega) _ rfl
    (fun hv => ⟨O6 kind r.f1 r.f2 nodes r.f4 l5 _ _ r.f8 hk.1 ok5 (u16 _) (u16 _) (fun e he => (wr.n9 e he).1.1), VJ kind r.f1 r.f2 nodes r.f4 l5 _ _ r.f8 wr.ok.id wr.ok.at_ wr.n4 wr.n9,
      by have h1 := TI kind r.f1 r.f2 nodes r.f4 l5 (IntKind.u16.wrap (Int.tmod r.f6 65536)) (IntKind.u16.wrap (Int.tmod r.f7 65536)) r.f8
         have h2 : hvF r.f4 + hvE r.f8 ≤ hvR r := by unfold hvR; omega
         omega⟩)
end Go.Proofs.YtgfkgppomaapiaaDoor.K
end
