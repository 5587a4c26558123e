/- Parts of the proof, one behind the other: K44, K45, K1, K46, K47, K48, SameP, SoundL, Apart, LawAp. -/
import Derived.Test.YtbbhjceelghadaaDoorQCodeApart8
set_option linter.unusedVariables false
set_option linter.unusedSimpArgs false
section
namespace Go.Proofs.YtbbhjceelghadaaDoor.K
open Go.RowKit Go.Proofs.YtbbhjceelghadaaDoorW.PrintWords Go.Proofs.YtbbhjceelghadaaDoorW.PrintLast Go.Proofs.YtbbhjceelghadaaDoorW.PrintMore
attribute [local go_sem] kJ kF kV kU jS jU kD kE
def stratumref07_SameInts.l0 : Nat → List Int → List Int → Int → Option (Bool)
  | 0, _, _, _ => none
  | k + 1, x0, x1, x5 => if x5 < (x0.length : Int) then (if 0 ≤ x5 then (if x5 < (x1.length : Int) then (if (rd x0 x5) = (rd x1 x5) then (stratumref07_SameInts.l0 k x0 x1 (wrap64 (x5 + 1))) else (some false)) else (none)) else (none)) else (some true)
def stratumref07_SameInts.f (k : Nat) (l0 : List Int) (l1 : List Int) : Option (Bool) := if (l0.length : Int) = (l1.length : Int) then (stratumref07_SameInts.l0 k l0 l1 0) else (some false)
theorem stratumref07_SameInts.mono_l : ∀ k, (∀ y0 y1 y2, LeO (stratumref07_SameInts.l0 k y0 y1 y2) (stratumref07_SameInts.l0 (k + 1) y0 y1 y2))
  | 0 => fun _ _ _ r h => by simp [stratumref07_SameInts.l0] at h
  | k + 1 => by
    have ih0 := stratumref07_SameInts.mono_l k
    · intro y0 y1 y2
      unfold stratumref07_SameInts.l0
      repeat' first
      | (with_reducible exact ih0 _ _ _)
      | (with_reducible exact LeO.refl _)
      | (with_reducible exact LeO.none _)
      | (with_reducible refine LeO.ite ?_ ?_)
      | (with_reducible refine LeO.bind ?_ (fun _ => ?_))
      | exact ih0 _ _ _
      | exact LeO.none _
      | refine LeO.ite ?_ ?_
      | refine LeO.bind ?_ (fun _ => ?_)
theorem stratumref07_SameInts.mono : ∀ a0 a1 k, LeO (stratumref07_SameInts.f k a0 a1) (stratumref07_SameInts.f (k + 1) a0 a1) := by
  intro a0 a1 k
  have ih0 := stratumref07_SameInts.mono_l k
  unfold stratumref07_SameInts.f
  repeat' first
      | (with_reducible exact ih0 _ _ _)
      | (with_reducible exact LeO.refl _)
      | (with_reducible exact LeO.none _)
      | (with_reducible refine LeO.ite ?_ ?_)
      | (with_reducible refine LeO.bind ?_ (fun _ => ?_))
      | exact ih0 _ _ _
      | exact LeO.none _
      | refine LeO.ite ?_ ?_
      | refine LeO.bind ?_ (fun _ => ?_)
set_option maxHeartbeats 8000000 in
set_option maxRecDepth 100000 in
theorem stratumref07_SameInts.calls (k : Nat) (A0 : Option Addr) (c0 : Nat) (l0 : List Int) (A1 : Option Addr) (c1 : Nat) (l1 : List Int) (r : Bool) (w : World) (hr0 : Kd.C (Kd.int .i64) w A0 l0.length l0) (hc0 : l0.length ≤ c0) (hr1 : Kd.C (Kd.int .i64) w A1 l1.length l1) (hc1 : l1.length ≤ c1) (h : stratumref07_SameInts.f k l0 l1 = some r) :
    Calls Tryd.prog 58 #[.slice A0 l0.length c0, .slice A1 l1.length c1] w fun e w' => e = .returned (.bool r) ∧ iZ w w' := by
  have HR0 := iE.mk hr0
  have HC0 := iE.mk hc0
  clear hr0 hc0
  have HR1 := iE.mk hr1
  have HC1 := iE.mk hc1
  clear hr1 hc1
  have H : (if (l0.length : Int) = (l1.length : Int) then (stratumref07_SameInts.l0 k l0 l1 0) else (some false)) = some r := h
  clear h
  by_cases c3 : (l0.length : Int) = (l1.length : Int)
  · rw [if_pos c3] at H
    have c3b0 : ((l0.length : Int) == (l1.length : Int)) = true := beq_iff_eq.mpr c3
    have c3b1 : ((l0.length : Int) != (l1.length : Int)) = false := bne_eq_false_iff_eq.mpr c3
    have c3b2 : (l0.length == l1.length) = true := by first | simpa using c3 | (simp at c3 ⊢; omega)
    clear c3
    have H' := iE.mk H
    clear H
    go_enter Tryd.func58, Tryd.ntmps58
    go_wp2
    repeat (go_quiet (fail); try go_wp2)
    go_loopg [5] k (fun kq v5 w' => ∃ (x5_1 : Int), v5 = .int .i64 x5_1 ∧ iE (stratumref07_SameInts.l0 kq l0 l1 x5_1 = some r) ∧ iE (kq ≤ k) ∧ iZ w w')
    case atStart => exact ⟨(0), (by first | rfl | (simp; done) | (simp [*]; done)), H', ⟨Nat.le_refl _⟩, by repeat (first | exact iZ.refl _ | apply iZ.step)⟩
    case round =>
      clear H'
      try clear c1
      try clear p2
      try clear c3
      try clear c3b0
      try clear c3b1
      try clear c3b2
      obtain ⟨x5_1, rfl, HA, HK1, ⟨m1, rfl⟩⟩ := hrel
      cases gk with
      | zero => exact absurd HA.out (by simp [stratumref07_SameInts.l0])
      | succ k1 =>
        have H := HA.out
        clear HA
        simp only [stratumref07_SameInts.l0] at H
        by_cases c4 : x5_1 < (l0.length : Int)
        · rw [if_pos c4] at H
          have c4b0 : decide (x5_1 < (l0.length : Int)) = true := decide_eq_true c4
          clear c4
          by_cases c5 : 0 ≤ x5_1
          · rw [if_pos c5] at H
            have c5b0 : decide (0 ≤ x5_1) = true := decide_eq_true c5
            clear c5
            by_cases c6 : x5_1 < (l1.length : Int)
            · rw [if_pos c6] at H
              have c6b0 : decide (x5_1 < (l1.length : Int)) = true := decide_eq_true c6
              clear c6
              by_cases c7 : (rd l0 x5_1) = (rd l1 x5_1)
              · rw [if_pos c7] at H
                have c7b0 : ((rd l0 x5_1) == (rd l1 x5_1)) = true := beq_iff_eq.mpr c7
                have c7b1 : ((rd l0 x5_1) != (rd l1 x5_1)) = false := bne_eq_false_iff_eq.mpr c7
                clear c7
                have H' := iE.mk H
                clear H
                have p208 : 0 ≤ (x5_1 : Int) := of_decide_eq_true asm_
                have q208 : x5_1 < (l0.length : Int) := of_decide_eq_true asm_
                obtain ⟨ad208, e208, hx208_0⟩ := Kd.at_int HR0.out x5_1 p208 q208
                cases e208
                replace p208 := eq_true p208
                replace q208 := eq_true q208
                have p209 : 0 ≤ (x5_1 : Int) := of_decide_eq_true asm_
                have q209 : x5_1 < (l1.length : Int) := of_decide_eq_true asm_
                obtain ⟨ad209, e209, hx209_0⟩ := Kd.at_int HR1.out x5_1 p209 q209
                cases e209
                replace p209 := eq_true p209
                replace q209 := eq_true q209
                go_wp2
                repeat (go_quiet (fail); try go_wp2)
                go_roundg k1
                case measure => have := HK1.out; omega
                case rel => exact ⟨(wrap64 (x5_1 + 1)), (by first | rfl | (simp; done) | (simp [*]; done)), H', ⟨by have := HK1.out; omega⟩, by repeat (first | exact iZ.refl _ | apply iZ.step)⟩
              · rw [if_neg c7] at H
                have c7b0 : ((rd l0 x5_1) == (rd l1 x5_1)) = false := beq_eq_false_iff_ne.mpr c7
                have c7b1 : ((rd l0 x5_1) != (rd l1 x5_1)) = true := bne_iff_ne.mpr c7
                obtain rfl := Option.some.inj H
                have p208 : 0 ≤ (x5_1 : Int) := of_decide_eq_true asm_
                have q208 : x5_1 < (l0.length : Int) := of_decide_eq_true asm_
                obtain ⟨ad208, e208, hx208_0⟩ := Kd.at_int HR0.out x5_1 p208 q208
                cases e208
                replace p208 := eq_true p208
                replace q208 := eq_true q208
                have p209 : 0 ≤ (x5_1 : Int) := of_decide_eq_true asm_
                have q209 : x5_1 < (l1.length : Int) := of_decide_eq_true asm_
                obtain ⟨ad209, e209, hx209_0⟩ := Kd.at_int HR1.out x5_1 p209 q209
                cases e209
                replace p209 := eq_true p209
                replace q209 := eq_true q209
                go_wp2
                repeat (go_quiet (fail); try go_wp2)
                go_ret
                exact ⟨by first | rfl | (simp; done) | (simp [*]; done), by repeat (first | exact iZ.refl _ | apply iZ.step)⟩
            · rw [if_neg c6] at H
              exact absurd H (by simp)
          · rw [if_neg c5] at H
            exact absurd H (by simp)
        · rw [if_neg c4] at H
          have c4b0 : decide (x5_1 < (l0.length : Int)) = false := decide_eq_false c4
          clear c4
          obtain rfl := Option.some.inj H
          go_wp2
          repeat (go_quiet (fail); try go_wp2)
          go_ret
          exact ⟨by first | rfl | (simp; done) | (simp [*]; done), by repeat (first | exact iZ.refl _ | apply iZ.step)⟩
  · rw [if_neg c3] at H
    have c3b0 : ((l0.length : Int) == (l1.length : Int)) = false := beq_eq_false_iff_ne.mpr c3
    have c3b1 : ((l0.length : Int) != (l1.length : Int)) = true := bne_iff_ne.mpr c3
    have c3b2 : (l0.length == l1.length) = false := by first | simpa using c3 | (simp at c3 ⊢; omega)
    obtain rfl := Option.some.inj H
    go_enter Tryd.func58, Tryd.ntmps58
    go_wp2
    repeat (go_quiet (fail); try go_wp2)
    go_ret
    exact ⟨by first | rfl | (simp; done) | (simp [*]; done), by repeat (first | exact iZ.refl _ | apply iZ.step)⟩
end Go.Proofs.YtbbhjceelghadaaDoor.K
end

section
namespace Go.Proofs.YtbbhjceelghadaaDoor.K
open Go.RowKit Go.Proofs.YtbbhjceelghadaaDoorW.PrintWords Go.Proofs.YtbbhjceelghadaaDoorW.PrintLast Go.Proofs.YtbbhjceelghadaaDoorW.PrintMore
attribute [local go_sem] kJ kF kV kU jS jU kD kE
def stratumref07_SameFacts.f (k : Nat) (l0 : List (S76)) (l1 : List (S76)) : Option (Bool) := (stratumref07_Facts.f k ([] : List Int) l0).bind fun t210 => ((stratumref07_Facts.f k ([] : List Int) l1).bind fun t213 => (some ((strOfNums t210).toList == (strOfNums t213).toList)))
theorem stratumref07_SameFacts.mono : ∀ a0 a1 k, LeO (stratumref07_SameFacts.f k a0 a1) (stratumref07_SameFacts.f (k + 1) a0 a1) := by
  intro a0 a1 k
  unfold stratumref07_SameFacts.f
  repeat' first
      | (with_reducible exact stratumref07_Facts.mono _ _ _)
      | (with_reducible exact LeO.refl _)
      | (with_reducible exact LeO.none _)
      | (with_reducible refine LeO.ite ?_ ?_)
      | (with_reducible refine LeO.bind ?_ (fun _ => ?_))
      | exact stratumref07_Facts.mono _ _ _
      | exact LeO.none _
      | refine LeO.ite ?_ ?_
      | refine LeO.bind ?_ (fun _ => ?_)
def stratumref07_SameFacts.T1 : Bool × List (List Nat × List Nat) := (true, [([], []), ([0], [0]), ([1], [1]), ([], []), ([3, 1], [3]), ([4], [4]), ([2, 5], [2, 5]), ([6, 4, 0, 1, 2, 3, 4, 5, 6], [6])])
def stratumref07_SameFacts.B1 : List Nat := [0, 1, 3, 0, 11, 27, 63, 127]
theorem stratumref07_SameFacts.tab1 : rtab .any (opsOf Tryd.f105 1) = stratumref07_SameFacts.T1 := by kernel_rfl
theorem stratumref07_SameFacts.bits1 : lU stratumref07_SameFacts.T1.2 stratumref07_SameFacts.B1 = true := by kernel_rfl
set_option maxHeartbeats 8000000 in
set_option maxRecDepth 100000 in
theorem stratumref07_SameFacts.calls (k : Nat) (A0 : Option Addr) (c0 : Nat) (l0 : List (S76)) (A1 : Option Addr) (c1 : Nat) (l1 : List (S76)) (r : Bool) (w : World) (hr0 : Kd.C k76 w A0 l0.length l0) (hc0 : l0.length ≤ c0) (hr1 : Kd.C k76 w A1 l1.length l1) (hc1 : l1.length ≤ c1) (h : stratumref07_SameFacts.f k l0 l1 = some r) :
    Calls Tryd.prog 105 #[.slice A0 l0.length c0, .slice A1 l1.length c1] w fun e w' => e = .returned (.bool r) ∧ Below w.heap.size w w' := by
  have HR0 := iE.mk hr0
  have HC0 := iE.mk hc0
  clear hr0 hc0
  have HR1 := iE.mk hr1
  have HC1 := iE.mk hc1
  clear hr1 hc1
  have HB := iE.mk (Below.refl w.heap.size w)
  have H : ((stratumref07_Facts.f k ([] : List Int) l0).bind fun t210 => ((stratumref07_Facts.f k ([] : List Int) l1).bind fun t213 => (some ((strOfNums t210).toList == (strOfNums t213).toList)))) = some r := h
  clear h
  replace H := Option.bind_eq_some_iff.mp H
  obtain ⟨t210, A30, H⟩ := H
  replace H : ((stratumref07_Facts.f k ([] : List Int) l1).bind fun t213 => (some ((strOfNums t210).toList == (strOfNums t213).toList))) = some r := H
  have A3 := iE.mk A30
  clear A30
  replace H := Option.bind_eq_some_iff.mp H
  obtain ⟨t213, A40, H⟩ := H
  replace H : (some ((strOfNums t210).toList == (strOfNums t213).toList)) = some r := H
  have A4 := iE.mk A40
  clear A40
  obtain rfl := Option.some.inj H
  go_enter Tryd.func105, Tryd.ntmps105
  try go_wp2
  have n0_ := iE.mk (iH HB.out)
  clear HB
  have HB := n0_
  clear n0_
  refine pR (n := 8) (S := fun w' => True) (ds := []) #[false, false, false, false, false, false, false, false] (by kernel_rfl) rfl rfl trivial (fun hHeld => ?_); refine mO stratumref07_SameFacts.tab1 stratumref07_SameFacts.bits1 (fun HT_ HW_ => ?_)
  generalize w.drew = w5 at HB hHeld ⊢
  refine jI (i := 0) (N := some 5) (v := ?_) (a' := ?_) #[true, false, false, false, false, false, false, false] rfl rfl (jC HT_.out (by kernel_rfl)) (fun _ _ _ h => h) (Or.inl ⟨by rfl, ?_⟩) ?_ ?_
  rotate_left
  · intro w'
    go_simp
    with_reducible rfl
  rotate_left
  · simp only [Act.put, List.setIfInBounds_toArray, List.set_cons_zero, List.set_cons_succ, iW, jD]
    rfl
  refine jI (i := 3) (N := some 8) (v := ?_) (a' := ?_) #[true, false, false, true, false, false, false, false] rfl rfl (jC HT_.out (by kernel_rfl)) (fun _ _ _ h => h) (Or.inl ⟨by rfl, ?_⟩) ?_ ?_
  rotate_left
  · intro w'
    go_simp
    with_reducible rfl
  rotate_left
  · simp only [Act.put, List.setIfInBounds_toArray, List.set_cons_zero, List.set_cons_succ, iW, jD]
    rfl
  refine one_ (i := 1) (N := some 6) #[true, true, false, true, false, false, false, false] rfl rfl (lQ HT_.out (by kernel_rfl)) (by decide) (fun K hK => ?_)
  refine rC Tryd.func88 (by kernel_rfl) rfl #[.slice none 0 0, .slice A0 l0.length c0] (by rfl) rfl rfl (by (try simp only [List.map_toArray, List.map_cons, List.map_nil]); first | done | rfl | (simp only [List.length_drop, List.length_take]; rfl)) ?_
  refine (stratumref07_Facts.calls k (fun k_ => some k_ = (.slice none 0 0 : Value).ownBlock) (.slice none 0 0) ([] : List Int) _ _ l0 t210 w _ ?side1 ?side2 ?side3 ?side4 A3.out).mono ?_
  (case side1 => repeat (first | (with_reducible first | exact HB.out | apply iG | apply iF | apply iH) | exact HB.out))
  (case side2 => exact Kd.R_nil _ _ _ _ _)
  (case side3 => exact Kd.C_kept_came vG HR0.out hb_ (fun k_ hs_ => (fun e_ => by simp [Value.ownBlock] at e_) hs_))
  (case side4 => exact HC0.out)
  rintro e w6 ⟨v211, rfl, ho0, hb, hkp⟩
  refine ⟨_, rfl, ?_⟩
  have n0_ := iE.mk (Kd.R_mono (ok' := fun k_ => True) ho0 (fun k_ hk_ => trivial))
  have n1_ := iE.mk (hb)
  clear HB
  have HO212 := n0_
  have HB := n1_
  clear n0_ n1_
  (try clear hb)
  (try clear hkp)
  (try clear ho0)
  refine hK.out _ _ trivial (fun hHeld => ?_)
  clear hK K
  refine lL (a' := ?_) ?_ ?_
  rotate_left
  · show Act.put _ (some 6) _ = _
    simp only [Act.put, List.setIfInBounds_toArray, List.set_cons_zero, List.set_cons_succ, iW, jD]
    rfl
  refine UR (σ := Value) 2 #[true, true, true, true, true, true, false, false] (fun s_ => [(7, .string (strOfNums t210)), (9, s_), (10, .string (strOfNums t213))]) (fun s_ w' => (Kd.R (Kd.int .u8) 5 w' w.heap.size (fun k_ => some k_ ≠ (s_ : Value).ownBlock) v211 t210) ∧ (Kd.R (Kd.int .u8) 5 w' w.heap.size (fun k_ => some k_ ≠ (v211 : Value).ownBlock) s_ t213) ∧ (Below w.heap.size w w')) ?_ ?_
  rotate_left
  · intro hCont
    refine two_ (i := 2) (j := 4) (Ni := some 7) (Nj := some 9) #[true, true, true, true, false, false, false, false] #[true, true, false, true, true, false, false, false] rfl rfl rfl rfl (MB HT_.out (by kernel_rfl)) (by decide) (by decide) (fun K hK => ?_) (fun K hK => ?_)
    · skip
      have hcv7 := kS (P := Tryd.prog) Tryd.underlying23 Tryd.underlying5 Tryd.underlying9 (Kd.own_of_R HO212.out)
      refine jY (w1 := ?_) (v := ?_) (by rfl) rfl ?_ ?_
      rotate_left 2
      · go_simp
        constructor
        · rfl
        · rfl
      clear hcv7
      refine hK.out _ _ trivial (fun hHeld => ?_)
      clear hK K
      refine lL (a' := ?_) ?_ ?_
      rotate_left
      · show Act.put _ (some 7) _ = _
        simp only [Act.put, List.setIfInBounds_toArray, List.set_cons_zero, List.set_cons_succ, iW, jD]
        rfl
      refine one_ (i := 4) (N := some 9) #[true, true, true, true, true, false, false, false] rfl rfl (lQ HT_.out (by kernel_rfl)) (by decide) (fun K hK => ?_)
      refine rC Tryd.func88 (by kernel_rfl) rfl #[.slice none 0 0, .slice A1 l1.length c1] (by rfl) rfl rfl (by (try simp only [List.map_toArray, List.map_cons, List.map_nil]); first | done | rfl | (simp only [List.length_drop, List.length_take]; rfl)) ?_
      refine (stratumref07_Facts.calls k (fun k_ => some k_ = (.slice none 0 0 : Value).ownBlock) (.slice none 0 0) ([] : List Int) _ _ l1 t213 w _ ?side1 ?side2 ?side3 ?side4 A4.out).mono ?_
      (case side1 => repeat (first | (with_reducible first | exact HB.out | apply iG | apply iF | apply iH) | exact HB.out))
      (case side2 => exact Kd.R_nil _ _ _ _ _)
      (case side3 => exact Kd.C_kept_came vG HR1.out hb_ (fun k_ hs_ => (fun e_ => by simp [Value.ownBlock] at e_) hs_))
      (case side4 => exact HC1.out)
      rintro e w8 ⟨v214, rfl, ho0, hb, hkp⟩
      refine ⟨_, rfl, ?_⟩
      have n0_ := iE.mk (Kd.R_mono (ok' := fun k_ => some k_ ≠ (v214 : Value).ownBlock) (Kd.R_keptB (HO212.out) hkp (fun k_ hk_ hs_ => (fun e_ => by simp [Value.ownBlock] at e_) hs_)) (fun k_ hk_ => fun e_ => Or.elim (ho0.1 k_ e_.symm) (fun hs_ => hk_.2.1 hs_) (fun hn_ => Nat.not_le.2 hk_.2.2 hn_)))
      have n1_ := iE.mk (Kd.R_mono (ok' := fun k_ => some k_ ≠ (v211 : Value).ownBlock) ho0 (fun k_ hk_ => Or.elim hk_ (fun hs_ => absurd hs_ (by simp [Value.ownBlock])) (fun hn_ => (Kd.fresh' (Kd.R_lt (by (with_reducible repeat (first | apply Kd.R_alloc | apply Kd.R_drewN | apply Kd.R_drew)); exact HO212.out)) k_ hn_))))
      have n2_ := iE.mk (hb)
      clear HO212
      clear HB
      have HO212 := n0_
      have HO215 := n1_
      have HB := n2_
      clear n0_ n1_ n2_
      (try clear hb)
      (try clear hkp)
      (try clear ho0)
      refine hK.out _ _ trivial (fun hHeld => ?_)
      clear hK K
      refine lL (a' := ?_) ?_ ?_
      rotate_left
      · show Act.put _ (some 9) _ = _
        simp only [Act.put, List.setIfInBounds_toArray, List.set_cons_zero, List.set_cons_succ, iW, jD]
        rfl
      refine one_ (i := 5) (N := some 10) #[true, true, true, true, true, true, false, false] rfl rfl (lQ HT_.out (by kernel_rfl)) (by decide) (fun K hK => ?_)
      have hcv9 := kS (P := Tryd.prog) Tryd.underlying23 Tryd.underlying5 Tryd.underlying9 (Kd.own_of_R HO215.out)
      refine jY (w1 := ?_) (v := ?_) (by rfl) rfl ?_ ?_
      rotate_left 2
      · go_simp
        constructor
        · rfl
        · rfl
      clear hcv9
      refine hK.out _ _ trivial (fun hHeld => ?_)
      clear hK K
      refine lL (a' := ?_) ?_ ?_
      rotate_left
      · show Act.put _ (some 10) _ = _
        simp only [Act.put, List.setIfInBounds_toArray, List.set_cons_zero, List.set_cons_succ, iW, jD]
        rfl
      exact lL (by simp only [pX, Act.put, List.setIfInBounds_toArray, List.set_cons_zero, List.set_cons_succ]) (hCont (v214) _ ⟨(by (with_reducible repeat (first | apply Kd.R_alloc | apply Kd.R_drewN | apply Kd.R_drew)); exact HO212.out), (by (with_reducible repeat (first | apply Kd.R_alloc | apply Kd.R_drewN | apply Kd.R_drew)); exact HO215.out), hb_⟩)
    · skip
      refine rC Tryd.func88 (by kernel_rfl) rfl #[.slice none 0 0, .slice A1 l1.length c1] (by rfl) rfl rfl (by (try simp only [List.map_toArray, List.map_cons, List.map_nil]); first | done | rfl | (simp only [List.length_drop, List.length_take]; rfl)) ?_
      refine (stratumref07_Facts.calls k (fun k_ => some k_ = (.slice none 0 0 : Value).ownBlock) (.slice none 0 0) ([] : List Int) _ _ l1 t213 w _ ?side1 ?side2 ?side3 ?side4 A4.out).mono ?_
      (case side1 => repeat (first | (with_reducible first | exact HB.out | apply iG | apply iF | apply iH) | exact HB.out))
      (case side2 => exact Kd.R_nil _ _ _ _ _)
      (case side3 => exact Kd.C_kept_came vG HR1.out hb_ (fun k_ hs_ => (fun e_ => by simp [Value.ownBlock] at e_) hs_))
      (case side4 => exact HC1.out)
      rintro e w7 ⟨v214, rfl, ho0, hb, hkp⟩
      refine ⟨_, rfl, ?_⟩
      have n0_ := iE.mk (Kd.R_mono (ok' := fun k_ => some k_ ≠ (v214 : Value).ownBlock) (Kd.R_keptB (HO212.out) hkp (fun k_ hk_ hs_ => (fun e_ => by simp [Value.ownBlock] at e_) hs_)) (fun k_ hk_ => fun e_ => Or.elim (ho0.1 k_ e_.symm) (fun hs_ => hk_.2.1 hs_) (fun hn_ => Nat.not_le.2 hk_.2.2 hn_)))
      have n1_ := iE.mk (Kd.R_mono (ok' := fun k_ => some k_ ≠ (v211 : Value).ownBlock) ho0 (fun k_ hk_ => Or.elim hk_ (fun hs_ => absurd hs_ (by simp [Value.ownBlock])) (fun hn_ => (Kd.fresh' (Kd.R_lt (by (with_reducible repeat (first | apply Kd.R_alloc | apply Kd.R_drewN | apply Kd.R_drew)); exact HO212.out)) k_ hn_))))
      have n2_ := iE.mk (hb)
      clear HO212
      clear HB
      have HO212 := n0_
      have HO215 := n1_
      have HB := n2_
      clear n0_ n1_ n2_
      (try clear hb)
      (try clear hkp)
      (try clear ho0)
      refine hK.out _ _ trivial (fun hHeld => ?_)
      clear hK K
      refine lL (a' := ?_) ?_ ?_
      rotate_left
      · show Act.put _ (some 9) _ = _
        simp only [Act.put, List.setIfInBounds_toArray, List.set_cons_zero, List.set_cons_succ, iW, jD]
        rfl
      refine two_ (i := 2) (j := 5) (Ni := some 7) (Nj := some 10) #[true, true, true, true, true, false, false, false] #[true, true, false, true, true, true, false, false] rfl rfl rfl rfl (MB HT_.out (by kernel_rfl)) (by decide) (by decide) (fun K hK => ?_) (fun K hK => ?_)
      · skip
        have hcv8 := kS (P := Tryd.prog) Tryd.underlying23 Tryd.underlying5 Tryd.underlying9 (Kd.own_of_R HO212.out)
        refine jY (w1 := ?_) (v := ?_) (by rfl) rfl ?_ ?_
        rotate_left 2
        · go_simp
          constructor
          · rfl
          · rfl
        clear hcv8
        refine hK.out _ _ trivial (fun hHeld => ?_)
        clear hK K
        refine lL (a' := ?_) ?_ ?_
        rotate_left
        · show Act.put _ (some 7) _ = _
          simp only [Act.put, List.setIfInBounds_toArray, List.set_cons_zero, List.set_cons_succ, iW, jD]
          rfl
        refine one_ (i := 5) (N := some 10) #[true, true, true, true, true, true, false, false] rfl rfl (lQ HT_.out (by kernel_rfl)) (by decide) (fun K hK => ?_)
        have hcv9 := kS (P := Tryd.prog) Tryd.underlying23 Tryd.underlying5 Tryd.underlying9 (Kd.own_of_R HO215.out)
        refine jY (w1 := ?_) (v := ?_) (by rfl) rfl ?_ ?_
        rotate_left 2
        · go_simp
          constructor
          · rfl
          · rfl
        clear hcv9
        refine hK.out _ _ trivial (fun hHeld => ?_)
        clear hK K
        refine lL (a' := ?_) ?_ ?_
        rotate_left
        · show Act.put _ (some 10) _ = _
          simp only [Act.put, List.setIfInBounds_toArray, List.set_cons_zero, List.set_cons_succ, iW, jD]
          rfl
        exact lL (by simp only [pX, Act.put, List.setIfInBounds_toArray, List.set_cons_zero, List.set_cons_succ]) (hCont (v214) _ ⟨(by (with_reducible repeat (first | apply Kd.R_alloc | apply Kd.R_drewN | apply Kd.R_drew)); exact HO212.out), (by (with_reducible repeat (first | apply Kd.R_alloc | apply Kd.R_drewN | apply Kd.R_drew)); exact HO215.out), hb_⟩)
      · skip
        have hcv8 := kS (P := Tryd.prog) Tryd.underlying23 Tryd.underlying5 Tryd.underlying9 (Kd.own_of_R HO215.out)
        refine jY (w1 := ?_) (v := ?_) (by rfl) rfl ?_ ?_
        rotate_left 2
        · go_simp
          constructor
          · rfl
          · rfl
        clear hcv8
        refine hK.out _ _ trivial (fun hHeld => ?_)
        clear hK K
        refine lL (a' := ?_) ?_ ?_
        rotate_left
        · show Act.put _ (some 10) _ = _
          simp only [Act.put, List.setIfInBounds_toArray, List.set_cons_zero, List.set_cons_succ, iW, jD]
          rfl
        refine one_ (i := 2) (N := some 7) #[true, true, true, true, true, true, false, false] rfl rfl (lQ HT_.out (by kernel_rfl)) (by decide) (fun K hK => ?_)
        have hcv9 := kS (P := Tryd.prog) Tryd.underlying23 Tryd.underlying5 Tryd.underlying9 (Kd.own_of_R HO212.out)
        refine jY (w1 := ?_) (v := ?_) (by rfl) rfl ?_ ?_
        rotate_left 2
        · go_simp
          constructor
          · rfl
          · rfl
        clear hcv9
        refine hK.out _ _ trivial (fun hHeld => ?_)
        clear hK K
        refine lL (a' := ?_) ?_ ?_
        rotate_left
        · show Act.put _ (some 7) _ = _
          simp only [Act.put, List.setIfInBounds_toArray, List.set_cons_zero, List.set_cons_succ, iW, jD]
          rfl
        exact lL (by simp only [pX, Act.put, List.setIfInBounds_toArray, List.set_cons_zero, List.set_cons_succ]) (hCont (v214) _ ⟨(by (with_reducible repeat (first | apply Kd.R_alloc | apply Kd.R_drewN | apply Kd.R_drew)); exact HO212.out), (by (with_reducible repeat (first | apply Kd.R_alloc | apply Kd.R_drewN | apply Kd.R_drew)); exact HO215.out), hb_⟩)
  rintro v214 w10 ⟨h0_, h1_, h2_⟩
  have n0_ : iE (Kd.R (Kd.int .u8) 5 w10 w.heap.size (fun k_ => some k_ ≠ (v214 : Value).ownBlock) v211 t210) := ⟨h0_⟩
  have n1_ : iE (Kd.R (Kd.int .u8) 5 w10 w.heap.size (fun k_ => some k_ ≠ (v211 : Value).ownBlock) v214 t213) := ⟨h1_⟩
  have n2_ : iE (Below w.heap.size w w10) := ⟨h2_⟩
  clear HB
  clear h0_ h1_ h2_
  have HO212 := n0_
  have HO215 := n1_
  have HB := n2_
  clear n0_ n1_ n2_
  have hHeld := trivial
  refine lL (a' := ?_) ?_ ?_
  rotate_left
  · simp only [pX, Act.put, List.setIfInBounds_toArray, List.set_cons_zero, List.set_cons_succ]
    rfl
  refine jI (i := 6) (N := some 11) (v := ?_) (a' := ?_) #[true, true, true, true, true, true, true, false] rfl rfl (jC HT_.out (by kernel_rfl)) (fun _ _ _ h => h) (Or.inl ⟨by rfl, ?_⟩) ?_ ?_
  rotate_left
  · intro w'
    go_simp
    with_reducible rfl
  rotate_left
  · simp only [Act.put, List.setIfInBounds_toArray, List.set_cons_zero, List.set_cons_succ, iW, jD]
    rfl
  refine jI (i := 7) (N := some 4) (v := ?_) (a' := ?_) #[true, true, true, true, true, true, true, true] rfl rfl (jC HT_.out (by kernel_rfl)) (fun _ _ _ h => h) (Or.inl ⟨by rfl, ?_⟩) ?_ ?_
  rotate_left
  · intro w'
    go_simp
    with_reducible rfl
  rotate_left
  · simp only [Act.put, List.setIfInBounds_toArray, List.set_cons_zero, List.set_cons_succ, iW, jD]
    rfl
  refine zO (pF HT_.out (by kernel_rfl)) ?_
  try go_wp2
  go_ret
  exact ⟨by first | rfl | (simp [iQ, iR] <;> rfl) | (simp [*, iQ, iR] <;> rfl), hb_⟩
end Go.Proofs.YtbbhjceelghadaaDoor.K
end

section
namespace Go.Proofs.YtbbhjceelghadaaDoor.K
open Go.RowKit Go.Proofs.YtbbhjceelghadaaDoorW.PrintWords Go.Proofs.YtbbhjceelghadaaDoorW.PrintLast Go.Proofs.YtbbhjceelghadaaDoorW.PrintMore
attribute [local go_sem] kJ kF kV kU jS jU kD kE
theorem UQ (d : Nat) (w : World) (x0 y0 : Int) (x1 y1 : Int) :
    (Op.equalIn (d + 2) 132 (.agg #[.int .i64 x0, .int .i64 x1]) (.agg #[.int .i64 y0, .int .i64 y1])).run Tryd.prog w = .ok (x0 == y0 && (x1 == y1)) w := by
  refine VE Tryd.underlying132 (by kernel_rfl) ?_
  refine QV (by rfl) (by go_simp; rfl) (by go_simp; rfl) (by go_simp) ?_
  exact QX (by rfl) (by go_simp; rfl) (by go_simp; rfl) (by go_simp)
end Go.Proofs.YtbbhjceelghadaaDoor.K
end

section
namespace Go.Proofs.YtbbhjceelghadaaDoor.K
open Go.RowKit Go.Proofs.YtbbhjceelghadaaDoorW.PrintWords Go.Proofs.YtbbhjceelghadaaDoorW.PrintLast Go.Proofs.YtbbhjceelghadaaDoorW.PrintMore
attribute [local go_sem] kJ kF kV kU jS jU kD kE
attribute [local go_sem high] UQ
mutual
def stratumref07_SameMap.j0 : Nat → Bool → Int → List (S132) → Int → List (S132) → Option (Bool)
  | 0, _, _, _, _, _ => none
  | k + 1, x19, x217000, x217001, x218000, x218001 => if x19 = true then (some false) else (stratumref07_SameMap.l0 k 0 x217000 x217001 x218000 x218001)
def stratumref07_SameMap.l0 : Nat → Int → Int → List (S132) → Int → List (S132) → Option (Bool)
  | 0, _, _, _, _, _ => none
  | k + 1, x5, x217000, x217001, x218000, x218001 => if x5 < (x217001.length : Int) then (if 0 ≤ x5 then (if x5 < (x218001.length : Int) then (if (!(((jO x217001 x5).f0) == ((jO x218001 x5).f0)) || (!(((jO x217001 x5).f1) == ((jO x218001 x5).f1)))) = true then (some false) else (stratumref07_SameMap.l0 k (wrap64 (x5 + 1)) x217000 x217001 x218000 x218001)) else (none)) else (none)) else (some true)
end
def stratumref07_SameMap.f (k : Nat) (a0_0 : Int) (l0_1 : List (S132)) (a1_0 : Int) (l1_1 : List (S132)) : Option (Bool) := if a0_0 = a1_0 then (stratumref07_SameMap.j0 k ((l0_1.length : Int) != (l1_1.length : Int)) a0_0 l0_1 a1_0 l1_1) else (stratumref07_SameMap.j0 k true a0_0 l0_1 a1_0 l1_1)
theorem stratumref07_SameMap.mono_l : ∀ k, (∀ y0 y1 y2 y3 y4, LeO (stratumref07_SameMap.j0 k y0 y1 y2 y3 y4) (stratumref07_SameMap.j0 (k + 1) y0 y1 y2 y3 y4)) ∧ (∀ y0 y1 y2 y3 y4, LeO (stratumref07_SameMap.l0 k y0 y1 y2 y3 y4) (stratumref07_SameMap.l0 (k + 1) y0 y1 y2 y3 y4))
  | 0 => ⟨fun _ _ _ _ _ r h => by simp [stratumref07_SameMap.j0] at h, fun _ _ _ _ _ r h => by simp [stratumref07_SameMap.l0] at h⟩
  | k + 1 => by
    obtain ⟨ih0, ih1⟩ := stratumref07_SameMap.mono_l k
    refine ⟨?_, ?_⟩
    · intro y0 y1 y2 y3 y4
      unfold stratumref07_SameMap.j0
      repeat' first
      | (with_reducible exact ih0 _ _ _ _ _)
      | (with_reducible exact ih1 _ _ _ _ _)
      | (with_reducible exact LeO.refl _)
      | (with_reducible exact LeO.none _)
      | (with_reducible refine LeO.ite ?_ ?_)
      | (with_reducible refine LeO.bind ?_ (fun _ => ?_))
      | exact ih0 _ _ _ _ _
      | exact ih1 _ _ _ _ _
      | exact LeO.none _
      | refine LeO.ite ?_ ?_
      | refine LeO.bind ?_ (fun _ => ?_)
    · intro y0 y1 y2 y3 y4
      unfold stratumref07_SameMap.l0
      repeat' first
      | (with_reducible exact ih0 _ _ _ _ _)
      | (with_reducible exact ih1 _ _ _ _ _)
      | (with_reducible exact LeO.refl _)
      | (with_reducible exact LeO.none _)
      | (with_reducible refine LeO.ite ?_ ?_)
      | (with_reducible refine LeO.bind ?_ (fun _ => ?_))
      | exact ih0 _ _ _ _ _
      | exact ih1 _ _ _ _ _
      | exact LeO.none _
      | refine LeO.ite ?_ ?_
      | refine LeO.bind ?_ (fun _ => ?_)
theorem stratumref07_SameMap.mono : ∀ a0 a1 a2 a3 k, LeO (stratumref07_SameMap.f k a0 a1 a2 a3) (stratumref07_SameMap.f (k + 1) a0 a1 a2 a3) := by
  intro a0 a1 a2 a3 k
  obtain ⟨ih0, ih1⟩ := stratumref07_SameMap.mono_l k
  unfold stratumref07_SameMap.f
  repeat' first
      | (with_reducible exact ih0 _ _ _ _ _)
      | (with_reducible exact ih1 _ _ _ _ _)
      | (with_reducible exact LeO.refl _)
      | (with_reducible exact LeO.none _)
      | (with_reducible refine LeO.ite ?_ ?_)
      | (with_reducible refine LeO.bind ?_ (fun _ => ?_))
      | exact ih0 _ _ _ _ _
      | exact ih1 _ _ _ _ _
      | exact LeO.none _
      | refine LeO.ite ?_ ?_
      | refine LeO.bind ?_ (fun _ => ?_)
set_option maxHeartbeats 8000000 in
set_option maxRecDepth 100000 in
theorem stratumref07_SameMap.calls (k : Nat) (a0_0 : Int) (A0_1 : Option Addr) (c0_1 : Nat) (l0_1 : List (S132)) (a1_0 : Int) (A1_1 : Option Addr) (c1_1 : Nat) (l1_1 : List (S132)) (r : Bool) (w : World) (hr0_1 : Kd.C k132 w A0_1 l0_1.length l0_1) (hc0_1 : l0_1.length ≤ c0_1) (hr1_1 : Kd.C k132 w A1_1 l1_1.length l1_1) (hc1_1 : l1_1.length ≤ c1_1) (h : stratumref07_SameMap.f k a0_0 l0_1 a1_0 l1_1 = some r) :
    Calls Tryd.prog 106 #[.agg #[.int .u32 a0_0, .slice A0_1 l0_1.length c0_1], .agg #[.int .u32 a1_0, .slice A1_1 l1_1.length c1_1]] w fun e w' => e = .returned (.bool r) ∧ Below w.heap.size w w' := by
  have hu54 := Tryd.underlying54
  have hu132 := Tryd.underlying132
  have HR0_1 := iE.mk hr0_1
  have HC0_1 := iE.mk hc0_1
  clear hr0_1 hc0_1
  have HR1_1 := iE.mk hr1_1
  have HC1_1 := iE.mk hc1_1
  clear hr1_1 hc1_1
  have HB := iE.mk (Below.refl w.heap.size w)
  have H : (if a0_0 = a1_0 then (stratumref07_SameMap.j0 k ((l0_1.length : Int) != (l1_1.length : Int)) a0_0 l0_1 a1_0 l1_1) else (stratumref07_SameMap.j0 k true a0_0 l0_1 a1_0 l1_1)) = some r := h
  clear h
  have HC3 := iE.mk H
  clear H
  go_enter Tryd.func106, Tryd.ntmps106
  go_upto_region 1 with (first | ((with_reducible refine jM (N := 2) rfl ?_); (try (refine kK (by rfl) ?_; dsimp only)); refine jJ ?hg (N := 2) ?hd (cs := #[.int .u32 a0_0, .slice A0_1 l0_1.length c0_1]) (t := 54) ?hr ?_; (case hd => rfl); (case hg => rfl); (case hr => first | (go_simp; done) | (go_simp; rfl)); intro gb216 hg w4 hbox hb; have n0_ := iE.mk (iL hb_ hb); have n1_ := iE.mk (hbox); have n2_ := iE.mk ((by rw [hg]; exact (iT hb_) : w.heap.size ≤ gb216)); have n3_ := iE.mk ((by rw [hg]; exact (iT hb_) : w.heap.size ≤ gb216)); clear HB; have HB := n0_; have BK216 := n1_; have GW216 := n2_; have GE216 := n3_; clear n0_ n1_ n2_ n3_; clear hb hbox hg) | ((with_reducible refine jM (N := 3) rfl ?_); (try (refine kK (by rfl) ?_; dsimp only)); refine jJ ?hg (N := 3) ?hd (cs := #[.int .u32 a1_0, .slice A1_1 l1_1.length c1_1]) (t := 54) ?hr ?_; (case hd => rfl); (case hg => rfl); (case hr => first | (go_simp; done) | (go_simp; rfl)); intro gb217 hg w5 hbox hb; have n0_ := iE.mk (jG (g := gb216) (o := .cells #[.int .u32 a0_0, .slice A0_1 l0_1.length c0_1] 54 (0, 0)) (bk_ BK216.out) hb); have n1_ := iE.mk (iL (by repeat (first | (with_reducible first | exact HB.out | apply iG | apply iF | apply iH | refine iI ?_ GE216.out) | exact HB.out)) hb); have n2_ := iE.mk (hbox); have n3_ := iE.mk ((by rw [hg]; exact (iT (by repeat (first | (with_reducible first | exact HB.out | apply iG | apply iF | apply iH | refine iI ?_ GE216.out) | exact HB.out))) : w.heap.size ≤ gb217)); have n4_ := iE.mk ((by rw [hg]; exact (iT (by repeat (first | (with_reducible first | exact HB.out | apply iG | apply iF | apply iH | refine iI ?_ GE216.out) | exact HB.out))) : w.heap.size ≤ gb217)); have n5_ := iE.mk ((by rw [hg]; exact Nat.ne_of_lt (kL (g := gb216) (o := .cells #[.int .u32 a0_0, .slice A0_1 l0_1.length c0_1] 54 (0, 0)) (bk_ BK216.out)) : gb216 ≠ gb217)); have n6_ := iE.mk ((by rw [hg]; exact Nat.ne_of_gt (kL (g := gb216) (o := .cells #[.int .u32 a0_0, .slice A0_1 l0_1.length c0_1] 54 (0, 0)) (bk_ BK216.out)) : gb217 ≠ gb216)); clear BK216; clear HB; have BK216 := n0_; have HB := n1_; have BK217 := n2_; have GW217 := n3_; have GE217 := n4_; have NB216_217 := n5_; have NB217_216 := n6_; clear n0_ n1_ n2_ n3_ n4_ n5_ n6_; clear hb hbox hg))
  repeat (go_quiet (first | ((with_reducible refine jM (N := 2) rfl ?_); (try (refine kK (by rfl) ?_; dsimp only)); refine jJ ?hg (N := 2) ?hd (cs := #[.int .u32 a0_0, .slice A0_1 l0_1.length c0_1]) (t := 54) ?hr ?_; (case hd => rfl); (case hg => rfl); (case hr => first | (go_simp; done) | (go_simp; rfl)); intro gb216 hg w4 hbox hb; have n0_ := iE.mk (iL hb_ hb); have n1_ := iE.mk (hbox); have n2_ := iE.mk ((by rw [hg]; exact (iT hb_) : w.heap.size ≤ gb216)); have n3_ := iE.mk ((by rw [hg]; exact (iT hb_) : w.heap.size ≤ gb216)); clear HB; have HB := n0_; have BK216 := n1_; have GW216 := n2_; have GE216 := n3_; clear n0_ n1_ n2_ n3_; clear hb hbox hg) | ((with_reducible refine jM (N := 3) rfl ?_); (try (refine kK (by rfl) ?_; dsimp only)); refine jJ ?hg (N := 3) ?hd (cs := #[.int .u32 a1_0, .slice A1_1 l1_1.length c1_1]) (t := 54) ?hr ?_; (case hd => rfl); (case hg => rfl); (case hr => first | (go_simp; done) | (go_simp; rfl)); intro gb217 hg w5 hbox hb; have n0_ := iE.mk (jG (g := gb216) (o := .cells #[.int .u32 a0_0, .slice A0_1 l0_1.length c0_1] 54 (0, 0)) (bk_ BK216.out) hb); have n1_ := iE.mk (iL (by repeat (first | (with_reducible first | exact HB.out | apply iG | apply iF | apply iH | refine iI ?_ GE216.out) | exact HB.out)) hb); have n2_ := iE.mk (hbox); have n3_ := iE.mk ((by rw [hg]; exact (iT (by repeat (first | (with_reducible first | exact HB.out | apply iG | apply iF | apply iH | refine iI ?_ GE216.out) | exact HB.out))) : w.heap.size ≤ gb217)); have n4_ := iE.mk ((by rw [hg]; exact (iT (by repeat (first | (with_reducible first | exact HB.out | apply iG | apply iF | apply iH | refine iI ?_ GE216.out) | exact HB.out))) : w.heap.size ≤ gb217)); have n5_ := iE.mk ((by rw [hg]; exact Nat.ne_of_lt (kL (g := gb216) (o := .cells #[.int .u32 a0_0, .slice A0_1 l0_1.length c0_1] 54 (0, 0)) (bk_ BK216.out)) : gb216 ≠ gb217)); have n6_ := iE.mk ((by rw [hg]; exact Nat.ne_of_gt (kL (g := gb216) (o := .cells #[.int .u32 a0_0, .slice A0_1 l0_1.length c0_1] 54 (0, 0)) (bk_ BK216.out)) : gb217 ≠ gb216)); clear BK216; clear HB; have BK216 := n0_; have HB := n1_; have BK217 := n2_; have GW217 := n3_; have GE217 := n4_; have NB216_217 := n5_; have NB217_216 := n6_; clear n0_ n1_ n2_ n3_ n4_ n5_ n6_; clear hb hbox hg)); go_upto_region 1 with (first | ((with_reducible refine jM (N := 2) rfl ?_); (try (refine kK (by rfl) ?_; dsimp only)); refine jJ ?hg (N := 2) ?hd (cs := #[.int .u32 a0_0, .slice A0_1 l0_1.length c0_1]) (t := 54) ?hr ?_; (case hd => rfl); (case hg => rfl); (case hr => first | (go_simp; done) | (go_simp; rfl)); intro gb216 hg w4 hbox hb; have n0_ := iE.mk (iL hb_ hb); have n1_ := iE.mk (hbox); have n2_ := iE.mk ((by rw [hg]; exact (iT hb_) : w.heap.size ≤ gb216)); have n3_ := iE.mk ((by rw [hg]; exact (iT hb_) : w.heap.size ≤ gb216)); clear HB; have HB := n0_; have BK216 := n1_; have GW216 := n2_; have GE216 := n3_; clear n0_ n1_ n2_ n3_; clear hb hbox hg) | ((with_reducible refine jM (N := 3) rfl ?_); (try (refine kK (by rfl) ?_; dsimp only)); refine jJ ?hg (N := 3) ?hd (cs := #[.int .u32 a1_0, .slice A1_1 l1_1.length c1_1]) (t := 54) ?hr ?_; (case hd => rfl); (case hg => rfl); (case hr => first | (go_simp; done) | (go_simp; rfl)); intro gb217 hg w5 hbox hb; have n0_ := iE.mk (jG (g := gb216) (o := .cells #[.int .u32 a0_0, .slice A0_1 l0_1.length c0_1] 54 (0, 0)) (bk_ BK216.out) hb); have n1_ := iE.mk (iL (by repeat (first | (with_reducible first | exact HB.out | apply iG | apply iF | apply iH | refine iI ?_ GE216.out) | exact HB.out)) hb); have n2_ := iE.mk (hbox); have n3_ := iE.mk ((by rw [hg]; exact (iT (by repeat (first | (with_reducible first | exact HB.out | apply iG | apply iF | apply iH | refine iI ?_ GE216.out) | exact HB.out))) : w.heap.size ≤ gb217)); have n4_ := iE.mk ((by rw [hg]; exact (iT (by repeat (first | (with_reducible first | exact HB.out | apply iG | apply iF | apply iH | refine iI ?_ GE216.out) | exact HB.out))) : w.heap.size ≤ gb217)); have n5_ := iE.mk ((by rw [hg]; exact Nat.ne_of_lt (kL (g := gb216) (o := .cells #[.int .u32 a0_0, .slice A0_1 l0_1.length c0_1] 54 (0, 0)) (bk_ BK216.out)) : gb216 ≠ gb217)); have n6_ := iE.mk ((by rw [hg]; exact Nat.ne_of_gt (kL (g := gb216) (o := .cells #[.int .u32 a0_0, .slice A0_1 l0_1.length c0_1] 54 (0, 0)) (bk_ BK216.out)) : gb217 ≠ gb216)); clear BK216; clear HB; have BK216 := n0_; have HB := n1_; have BK217 := n2_; have GW217 := n3_; have GE217 := n4_; have NB216_217 := n5_; have NB217_216 := n6_; clear n0_ n1_ n2_ n3_ n4_ n5_ n6_; clear hb hbox hg)))
  (try simp only [Act.put, List.setIfInBounds_toArray, List.set_cons_zero, List.set_cons_succ])
  go_cut [19] (fun v19 wc => ∃ (kq : Nat) (x19_2 : Bool), v19 = .bool x19_2 ∧ iE (stratumref07_SameMap.j0 kq x19_2 a0_0 l0_1 a1_0 l1_1 = some r) ∧ iE (kq ≤ k) ∧ iE (wc.heap[gb216]? = some (.cells #[.int .u32 a0_0, (.slice A0_1 l0_1.length c0_1)] 54 (0, 0))) ∧ iE (wc.heap[gb217]? = some (.cells #[.int .u32 a1_0, (.slice A1_1 l1_1.length c1_1)] 54 (0, 0))) ∧ iE (Below w.heap.size w wc))
  case first =>
    have H := HC3.out
    clear HC3
    by_cases c6 : a0_0 = a1_0
    · rw [if_pos c6] at H
      have c6b0 : (a0_0 == a1_0) = true := beq_iff_eq.mpr c6
      have c6b1 : (a0_0 != a1_0) = false := bne_eq_false_iff_eq.mpr c6
      clear c6
      (first | rw [c6b0] | (simp only [iW, jD]; rw [c6b0]) | skip)
      have H' := iE.mk H
      clear H
      have hnb7 := NB216_217.out
      have hnc7 := NB217_216.out
      have hcz8_0 : w5.cell? ⟨gb216, 0, none⟩ = some (.int .u32 a0_0) := (iD BK216.out 0).trans rfl
      have hcz8_1 : w5.cell? ⟨gb216, 1, none⟩ = some (.slice A0_1 l0_1.length c0_1) := (iD BK216.out 1).trans rfl
      have hfz8_0 := iC BK216.out 0
      have hfz8_1 := iC BK216.out 1
      have hcz9_0 : w5.cell? ⟨gb217, 0, none⟩ = some (.int .u32 a1_0) := (iD BK217.out 0).trans rfl
      have hcz9_1 : w5.cell? ⟨gb217, 1, none⟩ = some (.slice A1_1 l1_1.length c1_1) := (iD BK217.out 1).trans rfl
      have hfz9_0 := iC BK217.out 0
      have hfz9_1 := iC BK217.out 1
      go_wp2
      repeat (go_quiet (fail); try go_wp2)
      go_meet
      case rel => exact ⟨_, (((l0_1.length : Int) != (l1_1.length : Int))), (by first | rfl | (simp; done) | (simp [*]; done)), H', ⟨by first | omega | exact Nat.le_refl _⟩, ⟨bk_ BK216.out⟩, ⟨bk_ BK217.out⟩, ⟨by repeat (first | (with_reducible first | exact HB.out | apply iG | apply iF | apply iH | refine iI ?_ GE216.out | refine iI ?_ GE217.out) | exact HB.out)⟩⟩
    · rw [if_neg c6] at H
      have c6b0 : (a0_0 == a1_0) = false := beq_eq_false_iff_ne.mpr c6
      have c6b1 : (a0_0 != a1_0) = true := bne_iff_ne.mpr c6
      (first | rw [c6b0] | (simp only [iW, jD]; rw [c6b0]) | skip)
      have H' := iE.mk H
      clear H
      have hnb10 := NB216_217.out
      have hnc10 := NB217_216.out
      have hcz11_0 : w5.cell? ⟨gb216, 0, none⟩ = some (.int .u32 a0_0) := (iD BK216.out 0).trans rfl
      have hcz11_1 : w5.cell? ⟨gb216, 1, none⟩ = some (.slice A0_1 l0_1.length c0_1) := (iD BK216.out 1).trans rfl
      have hfz11_0 := iC BK216.out 0
      have hfz11_1 := iC BK216.out 1
      have hcz12_0 : w5.cell? ⟨gb217, 0, none⟩ = some (.int .u32 a1_0) := (iD BK217.out 0).trans rfl
      have hcz12_1 : w5.cell? ⟨gb217, 1, none⟩ = some (.slice A1_1 l1_1.length c1_1) := (iD BK217.out 1).trans rfl
      have hfz12_0 := iC BK217.out 0
      have hfz12_1 := iC BK217.out 1
      go_wp2
      repeat (go_quiet (fail); try go_wp2)
      go_meet
      case rel => exact ⟨_, (true), (by first | rfl | (simp; done) | (simp [*]; done)), H', ⟨by first | omega | exact Nat.le_refl _⟩, ⟨bk_ BK216.out⟩, ⟨bk_ BK217.out⟩, ⟨by repeat (first | (with_reducible first | exact HB.out | apply iG | apply iF | apply iH | refine iI ?_ GE216.out | refine iI ?_ GE217.out) | exact HB.out)⟩⟩
  case rest =>
    clear HC3
    try clear c1
    try clear p2
    try clear c6
    try clear c6b0
    try clear c6b1
    try clear c7
    try clear c10
    try clear hcz11_0
    try clear hcz11_1
    try clear hcz12_0
    try clear hcz12_1
    try clear hcz8_0
    try clear hcz8_1
    try clear hcz9_0
    try clear hcz9_1
    try clear hfz11_0
    try clear hfz11_1
    try clear hfz12_0
    try clear hfz12_1
    try clear hfz8_0
    try clear hfz8_1
    try clear hfz9_0
    try clear hfz9_1
    obtain ⟨kq, x19_2, rfl, HA, HJ2, BK216, BK217, HB⟩ := hcut
    cases kq with
    | zero => exact absurd HA.out (by simp [stratumref07_SameMap.j0])
    | succ kj2 =>
      have H := HA.out
      clear HA
      simp only [stratumref07_SameMap.j0] at H
      by_cases c13 : x19_2 = true
      · subst c13
        have H1 : (some false) = some r := by rw [if_pos rfl] at H; exact H
        clear H
        have H := H1
        clear H1
        obtain rfl := Option.some.inj H
        go_wp2
        repeat (go_quiet (fail); try go_wp2)
        go_ret
        exact ⟨by first | rfl | (simp [iQ, iR] <;> rfl) | (simp [*, iQ, iR] <;> rfl), by repeat (first | (with_reducible first | exact HB.out | apply iG | apply iF | apply iH | refine iI ?_ GE216.out | refine iI ?_ GE217.out) | exact HB.out)⟩
      · replace c13 := Bool.eq_false_iff.mpr c13
        subst c13
        have H1 : (stratumref07_SameMap.l0 kj2 0 a0_0 l0_1 a1_0 l1_1) = some r := by rw [if_neg (show ¬ (false = true) by decide)] at H; exact H
        clear H
        have H := H1
        clear H1
        have H' := iE.mk H
        clear H
        go_wp2
        repeat (go_quiet (fail); try go_wp2)
        go_loopg [5] kj2 (fun kq v5 w' => ∃ (x5_2 : Int), v5 = .int .i64 x5_2 ∧ iE (stratumref07_SameMap.l0 kq x5_2 a0_0 l0_1 a1_0 l1_1 = some r) ∧ iE (kq ≤ kj2) ∧ iE (w'.heap[gb216]? = some (.cells #[.int .u32 a0_0, (.slice A0_1 l0_1.length c0_1)] 54 (0, 0))) ∧ iE (w'.heap[gb217]? = some (.cells #[.int .u32 a1_0, (.slice A1_1 l1_1.length c1_1)] 54 (0, 0))) ∧ iE (Below w.heap.size w w'))
        case atStart => exact ⟨(0), (by first | rfl | (simp; done) | (simp [*]; done)), H', ⟨Nat.le_refl _⟩, ⟨bk_ BK216.out⟩, ⟨bk_ BK217.out⟩, ⟨by repeat (first | (with_reducible first | exact HB.out | apply iG | apply iF | apply iH | refine iI ?_ GE216.out | refine iI ?_ GE217.out) | exact HB.out)⟩⟩
        case round =>
          clear H'
          try clear c1
          try clear p2
          try clear c6
          try clear c6b0
          try clear c6b1
          try clear c7
          try clear c10
          try clear c13
          try clear hcz11_0
          try clear hcz11_1
          try clear hcz12_0
          try clear hcz12_1
          try clear hcz8_0
          try clear hcz8_1
          try clear hcz9_0
          try clear hcz9_1
          try clear hfz11_0
          try clear hfz11_1
          try clear hfz12_0
          try clear hfz12_1
          try clear hfz8_0
          try clear hfz8_1
          try clear hfz9_0
          try clear hfz9_1
          try clear p2
          obtain ⟨x5_2, rfl, HA, HK2, BK216, BK217, HB⟩ := hrel
          cases gk with
          | zero => exact absurd HA.out (by simp [stratumref07_SameMap.l0])
          | succ k2 =>
            have H := HA.out
            clear HA
            simp only [stratumref07_SameMap.l0] at H
            by_cases c14 : x5_2 < (l0_1.length : Int)
            · rw [if_pos c14] at H
              have c14b0 : decide (x5_2 < (l0_1.length : Int)) = true := decide_eq_true c14
              clear c14
              by_cases c15 : 0 ≤ x5_2
              · rw [if_pos c15] at H
                have c15b0 : decide (0 ≤ x5_2) = true := decide_eq_true c15
                clear c15
                by_cases c16 : x5_2 < (l1_1.length : Int)
                · rw [if_pos c16] at H
                  have c16b0 : decide (x5_2 < (l1_1.length : Int)) = true := decide_eq_true c16
                  clear c16
                  by_cases c17 : (!(((jO l0_1 x5_2).f0) == ((jO l1_1 x5_2).f0)) || (!(((jO l0_1 x5_2).f1) == ((jO l1_1 x5_2).f1)))) = true
                  · rw [if_pos c17] at H
                    have c17b0 : (!(((jO l0_1 x5_2).f0) == ((jO l1_1 x5_2).f0)) || (!(((jO l0_1 x5_2).f1) == ((jO l1_1 x5_2).f1)))) = true := c17
                    clear c17
                    obtain rfl := Option.some.inj H
                    have hnb18 := NB216_217.out
                    have hnc18 := NB217_216.out
                    have hcz19_0 : wr.cell? ⟨gb216, 0, none⟩ = some (.int .u32 a0_0) := (iD BK216.out 0).trans rfl
                    have hcz19_1 : wr.cell? ⟨gb216, 1, none⟩ = some (.slice A0_1 l0_1.length c0_1) := (iD BK216.out 1).trans rfl
                    have hfz19_0 := iC BK216.out 0
                    have hfz19_1 := iC BK216.out 1
                    have p218 : 0 ≤ (x5_2 : Int) := of_decide_eq_true asm_
                    have q218 : x5_2 < (l0_1.length : Int) := of_decide_eq_true asm_
                    obtain ⟨ad218, e218, hx218_0, hx218_1⟩ := kY HR0_1.out x5_2 p218 q218
                    cases e218
                    replace hx218_0 := (HB.out.cell (World.block_lt_of_cell? w _ hx218_0)).trans hx218_0
                    replace hx218_1 := (HB.out.cell (World.block_lt_of_cell? w _ hx218_1)).trans hx218_1
                    replace p218 := eq_true p218
                    replace q218 := eq_true q218
                    have hcz20_0 : wr.cell? ⟨gb217, 0, none⟩ = some (.int .u32 a1_0) := (iD BK217.out 0).trans rfl
                    have hcz20_1 : wr.cell? ⟨gb217, 1, none⟩ = some (.slice A1_1 l1_1.length c1_1) := (iD BK217.out 1).trans rfl
                    have hfz20_0 := iC BK217.out 0
                    have hfz20_1 := iC BK217.out 1
                    have p219 : 0 ≤ (x5_2 : Int) := of_decide_eq_true asm_
                    have q219 : x5_2 < (l1_1.length : Int) := of_decide_eq_true asm_
                    obtain ⟨ad219, e219, hx219_0, hx219_1⟩ := kY HR1_1.out x5_2 p219 q219
                    cases e219
                    replace hx219_0 := (HB.out.cell (World.block_lt_of_cell? w _ hx219_0)).trans hx219_0
                    replace hx219_1 := (HB.out.cell (World.block_lt_of_cell? w _ hx219_1)).trans hx219_1
                    replace p219 := eq_true p219
                    replace q219 := eq_true q219
                    go_wp2
                    repeat (go_quiet (fail); try go_wp2)
                    go_ret
                    exact ⟨by first | rfl | (simp [iQ, iR] <;> rfl) | (simp [*, iQ, iR] <;> rfl), by repeat (first | (with_reducible first | exact HB.out | apply iG | apply iF | apply iH | refine iI ?_ GE216.out | refine iI ?_ GE217.out) | exact HB.out)⟩
                  · rw [if_neg c17] at H
                    have c17b0 : (!(((jO l0_1 x5_2).f0) == ((jO l1_1 x5_2).f0)) || (!(((jO l0_1 x5_2).f1) == ((jO l1_1 x5_2).f1)))) = false := by simpa using c17
                    clear c17
                    have H' := iE.mk H
                    clear H
                    have hnb21 := NB216_217.out
                    have hnc21 := NB217_216.out
                    have hcz22_0 : wr.cell? ⟨gb216, 0, none⟩ = some (.int .u32 a0_0) := (iD BK216.out 0).trans rfl
                    have hcz22_1 : wr.cell? ⟨gb216, 1, none⟩ = some (.slice A0_1 l0_1.length c0_1) := (iD BK216.out 1).trans rfl
                    have hfz22_0 := iC BK216.out 0
                    have hfz22_1 := iC BK216.out 1
                    have p218 : 0 ≤ (x5_2 : Int) := of_decide_eq_true asm_
                    have q218 : x5_2 < (l0_1.length : Int) := of_decide_eq_true asm_
                    obtain ⟨ad218, e218, hx218_0, hx218_1⟩ := kY HR0_1.out x5_2 p218 q218
                    cases e218
                    replace hx218_0 := (HB.out.cell (World.block_lt_of_cell? w _ hx218_0)).trans hx218_0
                    replace hx218_1 := (HB.out.cell (World.block_lt_of_cell? w _ hx218_1)).trans hx218_1
                    replace p218 := eq_true p218
                    replace q218 := eq_true q218
                    have hcz23_0 : wr.cell? ⟨gb217, 0, none⟩ = some (.int .u32 a1_0) := (iD BK217.out 0).trans rfl
                    have hcz23_1 : wr.cell? ⟨gb217, 1, none⟩ = some (.slice A1_1 l1_1.length c1_1) := (iD BK217.out 1).trans rfl
                    have hfz23_0 := iC BK217.out 0
                    have hfz23_1 := iC BK217.out 1
                    have p219 : 0 ≤ (x5_2 : Int) := of_decide_eq_true asm_
                    have q219 : x5_2 < (l1_1.length : Int) := of_decide_eq_true asm_
                    obtain ⟨ad219, e219, hx219_0, hx219_1⟩ := kY HR1_1.out x5_2 p219 q219
                    cases e219
                    replace hx219_0 := (HB.out.cell (World.block_lt_of_cell? w _ hx219_0)).trans hx219_0
                    replace hx219_1 := (HB.out.cell (World.block_lt_of_cell? w _ hx219_1)).trans hx219_1
                    replace p219 := eq_true p219
                    replace q219 := eq_true q219
                    go_wp2
                    repeat (go_quiet (fail); try go_wp2)
                    go_roundg k2
                    case measure => have := HJ2.out; have := HK2.out; omega
                    case rel => exact ⟨(wrap64 (x5_2 + 1)), (by first | rfl | (simp; done) | (simp [*]; done)), H', ⟨by have := HJ2.out; have := HK2.out; omega⟩, ⟨bk_ BK216.out⟩, ⟨bk_ BK217.out⟩, ⟨by repeat (first | (with_reducible first | exact HB.out | apply iG | apply iF | apply iH | refine iI ?_ GE216.out | refine iI ?_ GE217.out) | exact HB.out)⟩⟩
                · rw [if_neg c16] at H
                  exact absurd H (by simp)
              · rw [if_neg c15] at H
                exact absurd H (by simp)
            · rw [if_neg c14] at H
              have c14b0 : decide (x5_2 < (l0_1.length : Int)) = false := decide_eq_false c14
              clear c14
              obtain rfl := Option.some.inj H
              have hnb24 := NB216_217.out
              have hnc24 := NB217_216.out
              have hcz25_0 : wr.cell? ⟨gb216, 0, none⟩ = some (.int .u32 a0_0) := (iD BK216.out 0).trans rfl
              have hcz25_1 : wr.cell? ⟨gb216, 1, none⟩ = some (.slice A0_1 l0_1.length c0_1) := (iD BK216.out 1).trans rfl
              have hfz25_0 := iC BK216.out 0
              have hfz25_1 := iC BK216.out 1
              go_wp2
              repeat (go_quiet (fail); try go_wp2)
              go_ret
              exact ⟨by first | rfl | (simp [iQ, iR] <;> rfl) | (simp [*, iQ, iR] <;> rfl), by repeat (first | (with_reducible first | exact HB.out | apply iG | apply iF | apply iH | refine iI ?_ GE216.out | refine iI ?_ GE217.out) | exact HB.out)⟩
end Go.Proofs.YtbbhjceelghadaaDoor.K
end

section
namespace Go.Proofs.YtbbhjceelghadaaDoor.K
open Go.RowKit Go.Proofs.YtbbhjceelghadaaDoorW.PrintWords Go.Proofs.YtbbhjceelghadaaDoorW.PrintLast Go.Proofs.YtbbhjceelghadaaDoorW.PrintMore
attribute [local go_sem] kJ kF kV kU jS jU kD kE
def stratumref07_SameEntries.f (l0 : List (S124)) (l1 : List (S124)) : Option (Bool) := (stratumref07_Entries.f ([] : List Int) l0).bind fun t220 => ((stratumref07_Entries.f ([] : List Int) l1).bind fun t223 => (some ((strOfNums t220).toList == (strOfNums t223).toList)))
def stratumref07_SameEntries.T1 : Bool × List (List Nat × List Nat) := (true, [([], []), ([0], [0]), ([1], [1]), ([], []), ([3, 1], [3]), ([4], [4]), ([2, 5], [2, 5]), ([6, 4, 0, 1, 2, 3, 4, 5, 6], [6])])
def stratumref07_SameEntries.B1 : List Nat := [0, 1, 3, 0, 11, 27, 63, 127]
theorem stratumref07_SameEntries.tab1 : rtab .any (opsOf Tryd.f107 1) = stratumref07_SameEntries.T1 := by kernel_rfl
theorem stratumref07_SameEntries.bits1 : lU stratumref07_SameEntries.T1.2 stratumref07_SameEntries.B1 = true := by kernel_rfl
set_option maxHeartbeats 8000000 in
set_option maxRecDepth 100000 in
theorem stratumref07_SameEntries.calls (A0 : Option Addr) (c0 : Nat) (l0 : List (S124)) (A1 : Option Addr) (c1 : Nat) (l1 : List (S124)) (r : Bool) (w : World) (hr0 : Kd.C k124 w A0 l0.length l0) (hc0 : l0.length ≤ c0) (hr1 : Kd.C k124 w A1 l1.length l1) (hc1 : l1.length ≤ c1) (h : stratumref07_SameEntries.f l0 l1 = some r) :
    Calls Tryd.prog 107 #[.slice A0 l0.length c0, .slice A1 l1.length c1] w fun e w' => e = .returned (.bool r) ∧ Below w.heap.size w w' := by
  have HR0 := iE.mk hr0
  have HC0 := iE.mk hc0
  clear hr0 hc0
  have HR1 := iE.mk hr1
  have HC1 := iE.mk hc1
  clear hr1 hc1
  have HB := iE.mk (Below.refl w.heap.size w)
  have H : ((stratumref07_Entries.f ([] : List Int) l0).bind fun t220 => ((stratumref07_Entries.f ([] : List Int) l1).bind fun t223 => (some ((strOfNums t220).toList == (strOfNums t223).toList)))) = some r := h
  clear h
  replace H := Option.bind_eq_some_iff.mp H
  obtain ⟨t220, A30, H⟩ := H
  replace H : ((stratumref07_Entries.f ([] : List Int) l1).bind fun t223 => (some ((strOfNums t220).toList == (strOfNums t223).toList))) = some r := H
  have A3 := iE.mk A30
  clear A30
  replace H := Option.bind_eq_some_iff.mp H
  obtain ⟨t223, A40, H⟩ := H
  replace H : (some ((strOfNums t220).toList == (strOfNums t223).toList)) = some r := H
  have A4 := iE.mk A40
  clear A40
  obtain rfl := Option.some.inj H
  go_enter Tryd.func107, Tryd.ntmps107
  try go_wp2
  have n0_ := iE.mk (iH HB.out)
  clear HB
  have HB := n0_
  clear n0_
  refine pR (n := 8) (S := fun w' => True) (ds := []) #[false, false, false, false, false, false, false, false] (by kernel_rfl) rfl rfl trivial (fun hHeld => ?_); refine mO stratumref07_SameEntries.tab1 stratumref07_SameEntries.bits1 (fun HT_ HW_ => ?_)
  generalize w.drew = w5 at HB hHeld ⊢
  refine jI (i := 0) (N := some 5) (v := ?_) (a' := ?_) #[true, false, false, false, false, false, false, false] rfl rfl (jC HT_.out (by kernel_rfl)) (fun _ _ _ h => h) (Or.inl ⟨by rfl, ?_⟩) ?_ ?_
  rotate_left
  · intro w'
    go_simp
    with_reducible rfl
  rotate_left
  · simp only [Act.put, List.setIfInBounds_toArray, List.set_cons_zero, List.set_cons_succ, iW, jD]
    rfl
  refine jI (i := 3) (N := some 8) (v := ?_) (a' := ?_) #[true, false, false, true, false, false, false, false] rfl rfl (jC HT_.out (by kernel_rfl)) (fun _ _ _ h => h) (Or.inl ⟨by rfl, ?_⟩) ?_ ?_
  rotate_left
  · intro w'
    go_simp
    with_reducible rfl
  rotate_left
  · simp only [Act.put, List.setIfInBounds_toArray, List.set_cons_zero, List.set_cons_succ, iW, jD]
    rfl
  refine one_ (i := 1) (N := some 6) #[true, true, false, true, false, false, false, false] rfl rfl (lQ HT_.out (by kernel_rfl)) (by decide) (fun K hK => ?_)
  refine rC Tryd.func89 (by kernel_rfl) rfl #[.slice none 0 0, .slice A0 l0.length c0] (by rfl) rfl rfl (by (try simp only [List.map_toArray, List.map_cons, List.map_nil]); first | done | rfl | (simp only [List.length_drop, List.length_take]; rfl)) ?_
  refine (stratumref07_Entries.calls0 _ _ l0 t220 _ ?side1 ?side2 ?side3 ?side4 A3.out).mono ?_
  (case side1 => exact Kd.C_nil _ _)
  (case side2 => exact Nat.le_refl _)
  (case side3 => repeat (first | exact (Kd.C_below HR0.out HB.out) | (with_reducible refine Kd.C_alloc ?_ _) | (with_reducible refine Kd.C_drewN ?_ _) | (with_reducible refine Kd.C_drew ?_)))
  (case side4 => exact HC0.out)
  rintro e w6 ⟨v221, rfl, ho0, hb⟩
  refine ⟨_, rfl, ?_⟩
  have n0_ := iE.mk (Kd.R_lower ho0 (iT hb_))
  have n1_ := iE.mk (iL hb_ hb)
  clear HB
  have HO222 := n0_
  have HB := n1_
  clear n0_ n1_
  (try clear hb)
  (try clear hb2)
  (try clear hk)
  (try clear hi)
  (try clear ho0)
  refine hK.out _ _ trivial (fun hHeld => ?_)
  clear hK K
  refine lL (a' := ?_) ?_ ?_
  rotate_left
  · show Act.put _ (some 6) _ = _
    simp only [Act.put, List.setIfInBounds_toArray, List.set_cons_zero, List.set_cons_succ, iW, jD]
    rfl
  refine UR (σ := Value) 2 #[true, true, true, true, true, true, false, false] (fun s_ => [(7, .string (strOfNums t220)), (9, s_), (10, .string (strOfNums t223))]) (fun s_ w' => (Kd.R (Kd.int .u8) 5 w' w.heap.size (fun k_ => some k_ ≠ (s_ : Value).ownBlock) v221 t220) ∧ (Kd.R (Kd.int .u8) 5 w' w.heap.size (fun k_ => some k_ ≠ (v221 : Value).ownBlock) s_ t223) ∧ (Below w.heap.size w w')) ?_ ?_
  rotate_left
  · intro hCont
    refine two_ (i := 2) (j := 4) (Ni := some 7) (Nj := some 9) #[true, true, true, true, false, false, false, false] #[true, true, false, true, true, false, false, false] rfl rfl rfl rfl (MB HT_.out (by kernel_rfl)) (by decide) (by decide) (fun K hK => ?_) (fun K hK => ?_)
    · skip
      have hcv7 := kS (P := Tryd.prog) Tryd.underlying23 Tryd.underlying5 Tryd.underlying9 (Kd.own_of_R HO222.out)
      refine jY (w1 := ?_) (v := ?_) (by rfl) rfl ?_ ?_
      rotate_left 2
      · go_simp
        constructor
        · rfl
        · rfl
      clear hcv7
      refine hK.out _ _ trivial (fun hHeld => ?_)
      clear hK K
      refine lL (a' := ?_) ?_ ?_
      rotate_left
      · show Act.put _ (some 7) _ = _
        simp only [Act.put, List.setIfInBounds_toArray, List.set_cons_zero, List.set_cons_succ, iW, jD]
        rfl
      refine one_ (i := 4) (N := some 9) #[true, true, true, true, true, false, false, false] rfl rfl (lQ HT_.out (by kernel_rfl)) (by decide) (fun K hK => ?_)
      refine rC Tryd.func89 (by kernel_rfl) rfl #[.slice none 0 0, .slice A1 l1.length c1] (by rfl) rfl rfl (by (try simp only [List.map_toArray, List.map_cons, List.map_nil]); first | done | rfl | (simp only [List.length_drop, List.length_take]; rfl)) ?_
      refine (stratumref07_Entries.calls0 _ _ l1 t223 _ ?side1 ?side2 ?side3 ?side4 A4.out).mono ?_
      (case side1 => exact Kd.C_nil _ _)
      (case side2 => exact Nat.le_refl _)
      (case side3 => repeat (first | exact (Kd.C_below HR1.out HB.out) | (with_reducible refine Kd.C_alloc ?_ _) | (with_reducible refine Kd.C_drewN ?_ _) | (with_reducible refine Kd.C_drew ?_)))
      (case side4 => exact HC1.out)
      rintro e w8 ⟨v224, rfl, ho0, hb⟩
      refine ⟨_, rfl, ?_⟩
      have n0_ := iE.mk (Kd.R_elder' (by (with_reducible repeat (first | apply Kd.R_alloc | apply Kd.R_drewN | apply Kd.R_drew)); exact HO222.out) (Kd.R_base ho0) hb)
      have n1_ := iE.mk (Kd.R_lower (Kd.R_new' ho0 (Kd.R_lt (by (with_reducible repeat (first | apply Kd.R_alloc | apply Kd.R_drewN | apply Kd.R_drew)); exact HO222.out))) (iT hb_))
      have n2_ := iE.mk (iL hb_ hb)
      clear HO222
      clear HB
      have HO222 := n0_
      have HO225 := n1_
      have HB := n2_
      clear n0_ n1_ n2_
      (try clear hb)
      (try clear hb2)
      (try clear hk)
      (try clear hi)
      (try clear ho0)
      refine hK.out _ _ trivial (fun hHeld => ?_)
      clear hK K
      refine lL (a' := ?_) ?_ ?_
      rotate_left
      · show Act.put _ (some 9) _ = _
        simp only [Act.put, List.setIfInBounds_toArray, List.set_cons_zero, List.set_cons_succ, iW, jD]
        rfl
      refine one_ (i := 5) (N := some 10) #[true, true, true, true, true, true, false, false] rfl rfl (lQ HT_.out (by kernel_rfl)) (by decide) (fun K hK => ?_)
      have hcv9 := kS (P := Tryd.prog) Tryd.underlying23 Tryd.underlying5 Tryd.underlying9 (Kd.own_of_R HO225.out)
      refine jY (w1 := ?_) (v := ?_) (by rfl) rfl ?_ ?_
      rotate_left 2
      · go_simp
        constructor
        · rfl
        · rfl
      clear hcv9
      refine hK.out _ _ trivial (fun hHeld => ?_)
      clear hK K
      refine lL (a' := ?_) ?_ ?_
      rotate_left
      · show Act.put _ (some 10) _ = _
        simp only [Act.put, List.setIfInBounds_toArray, List.set_cons_zero, List.set_cons_succ, iW, jD]
        rfl
      exact lL (by simp only [pX, Act.put, List.setIfInBounds_toArray, List.set_cons_zero, List.set_cons_succ]) (hCont (v224) _ ⟨(by (with_reducible repeat (first | apply Kd.R_alloc | apply Kd.R_drewN | apply Kd.R_drew)); exact Kd.R_mono HO222.out (fun _ hk => hk.2)), (by (with_reducible repeat (first | apply Kd.R_alloc | apply Kd.R_drewN | apply Kd.R_drew)); exact Kd.R_mono HO225.out (fun _ hk => hk.2)), hb_⟩)
    · skip
      refine rC Tryd.func89 (by kernel_rfl) rfl #[.slice none 0 0, .slice A1 l1.length c1] (by rfl) rfl rfl (by (try simp only [List.map_toArray, List.map_cons, List.map_nil]); first | done | rfl | (simp only [List.length_drop, List.length_take]; rfl)) ?_
      refine (stratumref07_Entries.calls0 _ _ l1 t223 _ ?side1 ?side2 ?side3 ?side4 A4.out).mono ?_
      (case side1 => exact Kd.C_nil _ _)
      (case side2 => exact Nat.le_refl _)
      (case side3 => repeat (first | exact (Kd.C_below HR1.out HB.out) | (with_reducible refine Kd.C_alloc ?_ _) | (with_reducible refine Kd.C_drewN ?_ _) | (with_reducible refine Kd.C_drew ?_)))
      (case side4 => exact HC1.out)
      rintro e w7 ⟨v224, rfl, ho0, hb⟩
      refine ⟨_, rfl, ?_⟩
      have n0_ := iE.mk (Kd.R_elder' (by (with_reducible repeat (first | apply Kd.R_alloc | apply Kd.R_drewN | apply Kd.R_drew)); exact HO222.out) (Kd.R_base ho0) hb)
      have n1_ := iE.mk (Kd.R_lower (Kd.R_new' ho0 (Kd.R_lt (by (with_reducible repeat (first | apply Kd.R_alloc | apply Kd.R_drewN | apply Kd.R_drew)); exact HO222.out))) (iT hb_))
      have n2_ := iE.mk (iL hb_ hb)
      clear HO222
      clear HB
      have HO222 := n0_
      have HO225 := n1_
      have HB := n2_
      clear n0_ n1_ n2_
      (try clear hb)
      (try clear hb2)
      (try clear hk)
      (try clear hi)
      (try clear ho0)
      refine hK.out _ _ trivial (fun hHeld => ?_)
      clear hK K
      refine lL (a' := ?_) ?_ ?_
      rotate_left
      · show Act.put _ (some 9) _ = _
        simp only [Act.put, List.setIfInBounds_toArray, List.set_cons_zero, List.set_cons_succ, iW, jD]
        rfl
      refine two_ (i := 2) (j := 5) (Ni := some 7) (Nj := some 10) #[true, true, true, true, true, false, false, false] #[true, true, false, true, true, true, false, false] rfl rfl rfl rfl (MB HT_.out (by kernel_rfl)) (by decide) (by decide) (fun K hK => ?_) (fun K hK => ?_)
      · skip
        have hcv8 := kS (P := Tryd.prog) Tryd.underlying23 Tryd.underlying5 Tryd.underlying9 (Kd.own_of_R HO222.out)
        refine jY (w1 := ?_) (v := ?_) (by rfl) rfl ?_ ?_
        rotate_left 2
        · go_simp
          constructor
          · rfl
          · rfl
        clear hcv8
        refine hK.out _ _ trivial (fun hHeld => ?_)
        clear hK K
        refine lL (a' := ?_) ?_ ?_
        rotate_left
        · show Act.put _ (some 7) _ = _
          simp only [Act.put, List.setIfInBounds_toArray, List.set_cons_zero, List.set_cons_succ, iW, jD]
          rfl
        refine one_ (i := 5) (N := some 10) #[true, true, true, true, true, true, false, false] rfl rfl (lQ HT_.out (by kernel_rfl)) (by decide) (fun K hK => ?_)
        have hcv9 := kS (P := Tryd.prog) Tryd.underlying23 Tryd.underlying5 Tryd.underlying9 (Kd.own_of_R HO225.out)
        refine jY (w1 := ?_) (v := ?_) (by rfl) rfl ?_ ?_
        rotate_left 2
        · go_simp
          constructor
          · rfl
          · rfl
        clear hcv9
        refine hK.out _ _ trivial (fun hHeld => ?_)
        clear hK K
        refine lL (a' := ?_) ?_ ?_
        rotate_left
        · show Act.put _ (some 10) _ = _
          simp only [Act.put, List.setIfInBounds_toArray, List.set_cons_zero, List.set_cons_succ, iW, jD]
          rfl
        exact lL (by simp only [pX, Act.put, List.setIfInBounds_toArray, List.set_cons_zero, List.set_cons_succ]) (hCont (v224) _ ⟨(by (with_reducible repeat (first | apply Kd.R_alloc | apply Kd.R_drewN | apply Kd.R_drew)); exact Kd.R_mono HO222.out (fun _ hk => hk.2)), (by (with_reducible repeat (first | apply Kd.R_alloc | apply Kd.R_drewN | apply Kd.R_drew)); exact Kd.R_mono HO225.out (fun _ hk => hk.2)), hb_⟩)
      · skip
        have hcv8 := kS (P := Tryd.prog) Tryd.underlying23 Tryd.underlying5 Tryd.underlying9 (Kd.own_of_R HO225.out)
        refine jY (w1 := ?_) (v := ?_) (by rfl) rfl ?_ ?_
        rotate_left 2
        · go_simp
          constructor
          · rfl
          · rfl
        clear hcv8
        refine hK.out _ _ trivial (fun hHeld => ?_)
        clear hK K
        refine lL (a' := ?_) ?_ ?_
        rotate_left
        · show Act.put _ (some 10) _ = _
          simp only [Act.put, List.setIfInBounds_toArray, List.set_cons_zero, List.set_cons_succ, iW, jD]
          rfl
        refine one_ (i := 2) (N := some 7) #[true, true, true, true, true, true, false, false] rfl rfl (lQ HT_.out (by kernel_rfl)) (by decide) (fun K hK => ?_)
        have hcv9 := kS (P := Tryd.prog) Tryd.underlying23 Tryd.underlying5 Tryd.underlying9 (Kd.own_of_R HO222.out)
        refine jY (w1 := ?_) (v := ?_) (by rfl) rfl ?_ ?_
        rotate_left 2
        · go_simp
          constructor
          · rfl
          · rfl
        clear hcv9
        refine hK.out _ _ trivial (fun hHeld => ?_)
        clear hK K
        refine lL (a' := ?_) ?_ ?_
        rotate_left
        · show Act.put _ (some 7) _ = _
          simp only [Act.put, List.setIfInBounds_toArray, List.set_cons_zero, List.set_cons_succ, iW, jD]
          rfl
        exact lL (by simp only [pX, Act.put, List.setIfInBounds_toArray, List.set_cons_zero, List.set_cons_succ]) (hCont (v224) _ ⟨(by (with_reducible repeat (first | apply Kd.R_alloc | apply Kd.R_drewN | apply Kd.R_drew)); exact Kd.R_mono HO222.out (fun _ hk => hk.2)), (by (with_reducible repeat (first | apply Kd.R_alloc | apply Kd.R_drewN | apply Kd.R_drew)); exact Kd.R_mono HO225.out (fun _ hk => hk.2)), hb_⟩)
  rintro v224 w10 ⟨h0_, h1_, h2_⟩
  have n0_ : iE (Kd.R (Kd.int .u8) 5 w10 w.heap.size (fun k_ => some k_ ≠ (v224 : Value).ownBlock) v221 t220) := ⟨h0_⟩
  have n1_ : iE (Kd.R (Kd.int .u8) 5 w10 w.heap.size (fun k_ => some k_ ≠ (v221 : Value).ownBlock) v224 t223) := ⟨h1_⟩
  have n2_ : iE (Below w.heap.size w w10) := ⟨h2_⟩
  clear HB
  clear h0_ h1_ h2_
  have HO222 := n0_
  have HO225 := n1_
  have HB := n2_
  clear n0_ n1_ n2_
  have hHeld := trivial
  refine lL (a' := ?_) ?_ ?_
  rotate_left
  · simp only [pX, Act.put, List.setIfInBounds_toArray, List.set_cons_zero, List.set_cons_succ]
    rfl
  refine jI (i := 6) (N := some 11) (v := ?_) (a' := ?_) #[true, true, true, true, true, true, true, false] rfl rfl (jC HT_.out (by kernel_rfl)) (fun _ _ _ h => h) (Or.inl ⟨by rfl, ?_⟩) ?_ ?_
  rotate_left
  · intro w'
    go_simp
    with_reducible rfl
  rotate_left
  · simp only [Act.put, List.setIfInBounds_toArray, List.set_cons_zero, List.set_cons_succ, iW, jD]
    rfl
  refine jI (i := 7) (N := some 4) (v := ?_) (a' := ?_) #[true, true, true, true, true, true, true, true] rfl rfl (jC HT_.out (by kernel_rfl)) (fun _ _ _ h => h) (Or.inl ⟨by rfl, ?_⟩) ?_ ?_
  rotate_left
  · intro w'
    go_simp
    with_reducible rfl
  rotate_left
  · simp only [Act.put, List.setIfInBounds_toArray, List.set_cons_zero, List.set_cons_succ, iW, jD]
    rfl
  refine zO (pF HT_.out (by kernel_rfl)) ?_
  try go_wp2
  go_ret
  exact ⟨by first | rfl | (simp [iQ, iR] <;> rfl) | (simp [*, iQ, iR] <;> rfl), hb_⟩
end Go.Proofs.YtbbhjceelghadaaDoor.K
end

section
namespace Go.Proofs.YtbbhjceelghadaaDoor.K
open Go.RowKit Go.Proofs.YtbbhjceelghadaaDoorW.PrintWords Go.Proofs.YtbbhjceelghadaaDoorW.PrintLast Go.Proofs.YtbbhjceelghadaaDoorW.PrintMore
attribute [local go_sem] kJ kF kV kU jS jU kD kE
def stratumref07_Same.j0 : Nat → Bool → Int → Int → Int → List Int → List (S76) → Int → List (S132) → Int → Int → List (S124) → Int → Int → Int → List Int → List (S76) → Int → List (S132) → Int → Int → List (S124) → Option (Bool)
  | 0, _, _, _, _, _, _, _, _, _, _, _, _, _, _, _, _, _, _, _, _, _ => none
  | k + 1, x5, x227000, x227001, x227002, x227003, x227004, x227005, x227006, x227007, x227008, x227009, x228000, x228001, x228002, x228003, x228004, x228005, x228006, x228007, x228008, x228009 => if x5 = true then ((stratumref07_SameInts.f k x227003 x228003).bind fun t228 => (if t228 = true then ((stratumref07_SameFacts.f k x227004 x228004).bind fun t229 => (if t229 = true then ((stratumref07_SameMap.f k x227005 x227006 x228005 x228006).bind fun t230 => (if t230 = true then ((stratumref07_SameEntries.f x227009 x228009).bind fun t231 => (some t231)) else (some false))) else (some false))) else (some false))) else (some false)
def stratumref07_Same.f (k : Nat) (a0_0 : Int) (a0_1 : Int) (a0_2 : Int) (l0_3 : List Int) (l0_4 : List (S76)) (a0_5 : Int) (l0_6 : List (S132)) (a0_7 : Int) (a0_8 : Int) (l0_9 : List (S124)) (a1_0 : Int) (a1_1 : Int) (a1_2 : Int) (l1_3 : List Int) (l1_4 : List (S76)) (a1_5 : Int) (l1_6 : List (S132)) (a1_7 : Int) (a1_8 : Int) (l1_9 : List (S124)) : Option (Bool) := if a0_0 = a1_0 then (if a0_1 = a1_1 then (if a0_2 = a1_2 then (if a0_7 = a1_7 then (stratumref07_Same.j0 k (a0_8 == a1_8) a0_0 a0_1 a0_2 l0_3 l0_4 a0_5 l0_6 a0_7 a0_8 l0_9 a1_0 a1_1 a1_2 l1_3 l1_4 a1_5 l1_6 a1_7 a1_8 l1_9) else (stratumref07_Same.j0 k false a0_0 a0_1 a0_2 l0_3 l0_4 a0_5 l0_6 a0_7 a0_8 l0_9 a1_0 a1_1 a1_2 l1_3 l1_4 a1_5 l1_6 a1_7 a1_8 l1_9)) else (stratumref07_Same.j0 k false a0_0 a0_1 a0_2 l0_3 l0_4 a0_5 l0_6 a0_7 a0_8 l0_9 a1_0 a1_1 a1_2 l1_3 l1_4 a1_5 l1_6 a1_7 a1_8 l1_9)) else (stratumref07_Same.j0 k false a0_0 a0_1 a0_2 l0_3 l0_4 a0_5 l0_6 a0_7 a0_8 l0_9 a1_0 a1_1 a1_2 l1_3 l1_4 a1_5 l1_6 a1_7 a1_8 l1_9)) else (stratumref07_Same.j0 k false a0_0 a0_1 a0_2 l0_3 l0_4 a0_5 l0_6 a0_7 a0_8 l0_9 a1_0 a1_1 a1_2 l1_3 l1_4 a1_5 l1_6 a1_7 a1_8 l1_9)
theorem stratumref07_Same.mono_l : ∀ k, (∀ y0 y1 y2 y3 y4 y5 y6 y7 y8 y9 y10 y11 y12 y13 y14 y15 y16 y17 y18 y19 y20, LeO (stratumref07_Same.j0 k y0 y1 y2 y3 y4 y5 y6 y7 y8 y9 y10 y11 y12 y13 y14 y15 y16 y17 y18 y19 y20) (stratumref07_Same.j0 (k + 1) y0 y1 y2 y3 y4 y5 y6 y7 y8 y9 y10 y11 y12 y13 y14 y15 y16 y17 y18 y19 y20))
  | 0 => fun _ _ _ _ _ _ _ _ _ _ _ _ _ _ _ _ _ _ _ _ _ r h => by simp [stratumref07_Same.j0] at h
  | k + 1 => by
    have ih0 := stratumref07_Same.mono_l k
    · intro y0 y1 y2 y3 y4 y5 y6 y7 y8 y9 y10 y11 y12 y13 y14 y15 y16 y17 y18 y19 y20
      unfold stratumref07_Same.j0
      repeat' first
      | (with_reducible exact ih0 _ _ _ _ _ _ _ _ _ _ _ _ _ _ _ _ _ _ _ _ _)
      | (with_reducible exact stratumref07_SameFacts.mono _ _ _)
      | (with_reducible exact stratumref07_SameInts.mono _ _ _)
      | (with_reducible exact stratumref07_SameMap.mono _ _ _ _ _)
      | (with_reducible exact LeO.refl _)
      | (with_reducible exact LeO.none _)
      | (with_reducible refine LeO.ite ?_ ?_)
      | (with_reducible refine LeO.bind ?_ (fun _ => ?_))
      | exact ih0 _ _ _ _ _ _ _ _ _ _ _ _ _ _ _ _ _ _ _ _ _
      | exact stratumref07_SameFacts.mono _ _ _
      | exact stratumref07_SameInts.mono _ _ _
      | exact stratumref07_SameMap.mono _ _ _ _ _
      | exact LeO.none _
      | refine LeO.ite ?_ ?_
      | refine LeO.bind ?_ (fun _ => ?_)
theorem stratumref07_Same.mono : ∀ a0 a1 a2 a3 a4 a5 a6 a7 a8 a9 a10 a11 a12 a13 a14 a15 a16 a17 a18 a19 k, LeO (stratumref07_Same.f k a0 a1 a2 a3 a4 a5 a6 a7 a8 a9 a10 a11 a12 a13 a14 a15 a16 a17 a18 a19) (stratumref07_Same.f (k + 1) a0 a1 a2 a3 a4 a5 a6 a7 a8 a9 a10 a11 a12 a13 a14 a15 a16 a17 a18 a19) := by
  intro a0 a1 a2 a3 a4 a5 a6 a7 a8 a9 a10 a11 a12 a13 a14 a15 a16 a17 a18 a19 k
  have ih0 := stratumref07_Same.mono_l k
  unfold stratumref07_Same.f
  repeat' first
      | (with_reducible exact ih0 _ _ _ _ _ _ _ _ _ _ _ _ _ _ _ _ _ _ _ _ _)
      | (with_reducible exact stratumref07_SameFacts.mono _ _ _)
      | (with_reducible exact stratumref07_SameInts.mono _ _ _)
      | (with_reducible exact stratumref07_SameMap.mono _ _ _ _ _)
      | (with_reducible exact LeO.refl _)
      | (with_reducible exact LeO.none _)
      | (with_reducible refine LeO.ite ?_ ?_)
      | (with_reducible refine LeO.bind ?_ (fun _ => ?_))
      | exact ih0 _ _ _ _ _ _ _ _ _ _ _ _ _ _ _ _ _ _ _ _ _
      | exact stratumref07_SameFacts.mono _ _ _
      | exact stratumref07_SameInts.mono _ _ _
      | exact stratumref07_SameMap.mono _ _ _ _ _
      | exact LeO.none _
      | refine LeO.ite ?_ ?_
      | refine LeO.bind ?_ (fun _ => ?_)
set_option maxHeartbeats 8000000 in
set_option maxRecDepth 100000 in
theorem stratumref07_Same.calls (k : Nat) (a0_0 : Int) (a0_1 : Int) (a0_2 : Int) (A0_3 : Option Addr) (c0_3 : Nat) (l0_3 : List Int) (A0_4 : Option Addr) (c0_4 : Nat) (l0_4 : List (S76)) (a0_5 : Int) (A0_6 : Option Addr) (c0_6 : Nat) (l0_6 : List (S132)) (a0_7 : Int) (a0_8 : Int) (A0_9 : Option Addr) (c0_9 : Nat) (l0_9 : List (S124)) (a1_0 : Int) (a1_1 : Int) (a1_2 : Int) (A1_3 : Option Addr) (c1_3 : Nat) (l1_3 : List Int) (A1_4 : Option Addr) (c1_4 : Nat) (l1_4 : List (S76)) (a1_5 : Int) (A1_6 : Option Addr) (c1_6 : Nat) (l1_6 : List (S132)) (a1_7 : Int) (a1_8 : Int) (A1_9 : Option Addr) (c1_9 : Nat) (l1_9 : List (S124)) (r : Bool) (w : World) (hr0_3 : Kd.C (Kd.int .i64) w A0_3 l0_3.length l0_3) (hc0_3 : l0_3.length ≤ c0_3) (hr0_4 : Kd.C k76 w A0_4 l0_4.length l0_4) (hc0_4 : l0_4.length ≤ c0_4) (hr0_6 : Kd.C k132 w A0_6 l0_6.length l0_6) (hc0_6 : l0_6.length ≤ c0_6) (hr0_9 : Kd.C k124 w A0_9 l0_9.length l0_9) (hc0_9 : l0_9.length ≤ c0_9) (hr1_3 : Kd.C (Kd.int .i64) w A1_3 l1_3.length l1_3) (hc1_3 : l1_3.length ≤ c1_3) (hr1_4 : Kd.C k76 w A1_4 l1_4.length l1_4) (hc1_4 : l1_4.length ≤ c1_4) (hr1_6 : Kd.C k132 w A1_6 l1_6.length l1_6) (hc1_6 : l1_6.length ≤ c1_6) (hr1_9 : Kd.C k124 w A1_9 l1_9.length l1_9) (hc1_9 : l1_9.length ≤ c1_9) (h : stratumref07_Same.f k a0_0 a0_1 a0_2 l0_3 l0_4 a0_5 l0_6 a0_7 a0_8 l0_9 a1_0 a1_1 a1_2 l1_3 l1_4 a1_5 l1_6 a1_7 a1_8 l1_9 = some r) :
    Calls Tryd.prog 45 #[.agg #[.int .u8 a0_0, .int .u32 a0_1, .int .u32 a0_2, .slice A0_3 l0_3.length c0_3, .slice A0_4 l0_4.length c0_4, .int .u32 a0_5, .slice A0_6 l0_6.length c0_6, .int .i64 a0_7, .int .i64 a0_8, .slice A0_9 l0_9.length c0_9], .agg #[.int .u8 a1_0, .int .u32 a1_1, .int .u32 a1_2, .slice A1_3 l1_3.length c1_3, .slice A1_4 l1_4.length c1_4, .int .u32 a1_5, .slice A1_6 l1_6.length c1_6, .int .i64 a1_7, .int .i64 a1_8, .slice A1_9 l1_9.length c1_9]] w fun e w' => e = .returned (.bool r) ∧ Below w.heap.size w w' := by
  have hu57 := Tryd.underlying57
  have hu54 := Tryd.underlying54
  have HR0_3 := iE.mk hr0_3
  have HC0_3 := iE.mk hc0_3
  clear hr0_3 hc0_3
  have HR0_4 := iE.mk hr0_4
  have HC0_4 := iE.mk hc0_4
  clear hr0_4 hc0_4
  have HR0_6 := iE.mk hr0_6
  have HC0_6 := iE.mk hc0_6
  clear hr0_6 hc0_6
  have HR0_9 := iE.mk hr0_9
  have HC0_9 := iE.mk hc0_9
  clear hr0_9 hc0_9
  have HR1_3 := iE.mk hr1_3
  have HC1_3 := iE.mk hc1_3
  clear hr1_3 hc1_3
  have HR1_4 := iE.mk hr1_4
  have HC1_4 := iE.mk hc1_4
  clear hr1_4 hc1_4
  have HR1_6 := iE.mk hr1_6
  have HC1_6 := iE.mk hc1_6
  clear hr1_6 hc1_6
  have HR1_9 := iE.mk hr1_9
  have HC1_9 := iE.mk hc1_9
  clear hr1_9 hc1_9
  have HB := iE.mk (Below.refl w.heap.size w)
  have H : (if a0_0 = a1_0 then (if a0_1 = a1_1 then (if a0_2 = a1_2 then (if a0_7 = a1_7 then (stratumref07_Same.j0 k (a0_8 == a1_8) a0_0 a0_1 a0_2 l0_3 l0_4 a0_5 l0_6 a0_7 a0_8 l0_9 a1_0 a1_1 a1_2 l1_3 l1_4 a1_5 l1_6 a1_7 a1_8 l1_9) else (stratumref07_Same.j0 k false a0_0 a0_1 a0_2 l0_3 l0_4 a0_5 l0_6 a0_7 a0_8 l0_9 a1_0 a1_1 a1_2 l1_3 l1_4 a1_5 l1_6 a1_7 a1_8 l1_9)) else (stratumref07_Same.j0 k false a0_0 a0_1 a0_2 l0_3 l0_4 a0_5 l0_6 a0_7 a0_8 l0_9 a1_0 a1_1 a1_2 l1_3 l1_4 a1_5 l1_6 a1_7 a1_8 l1_9)) else (stratumref07_Same.j0 k false a0_0 a0_1 a0_2 l0_3 l0_4 a0_5 l0_6 a0_7 a0_8 l0_9 a1_0 a1_1 a1_2 l1_3 l1_4 a1_5 l1_6 a1_7 a1_8 l1_9)) else (stratumref07_Same.j0 k false a0_0 a0_1 a0_2 l0_3 l0_4 a0_5 l0_6 a0_7 a0_8 l0_9 a1_0 a1_1 a1_2 l1_3 l1_4 a1_5 l1_6 a1_7 a1_8 l1_9)) = some r := h
  clear h
  have HC3 := iE.mk H
  clear H
  go_enter Tryd.func45, Tryd.ntmps45
  go_upto_region 1 with (first | ((with_reducible refine jM (N := 2) rfl ?_); refine jJ ?hg (N := 2) ?hd (cs := #[.int .u8 a0_0, .int .u32 a0_1, .int .u32 a0_2, .slice A0_3 l0_3.length c0_3, .slice A0_4 l0_4.length c0_4, .int .u32 a0_5, .slice A0_6 l0_6.length c0_6, .int .i64 a0_7, .int .i64 a0_8, .slice A0_9 l0_9.length c0_9]) (t := 57) ?hr ?_; (case hd => rfl); (case hg => rfl); (case hr => first | (go_simp; done) | (go_simp; rfl)); intro gb226 hg w4 hbox hb; have n0_ := iE.mk (iL hb_ hb); have n1_ := iE.mk (hbox); have n2_ := iE.mk ((by rw [hg]; exact (iT hb_) : w.heap.size ≤ gb226)); have n3_ := iE.mk ((by rw [hg]; exact (iT hb_) : w.heap.size ≤ gb226)); clear HB; have HB := n0_; have BK226 := n1_; have GW226 := n2_; have GE226 := n3_; clear n0_ n1_ n2_ n3_; clear hb hbox hg) | ((with_reducible refine jM (N := 3) rfl ?_); refine jJ ?hg (N := 3) ?hd (cs := #[.int .u8 a1_0, .int .u32 a1_1, .int .u32 a1_2, .slice A1_3 l1_3.length c1_3, .slice A1_4 l1_4.length c1_4, .int .u32 a1_5, .slice A1_6 l1_6.length c1_6, .int .i64 a1_7, .int .i64 a1_8, .slice A1_9 l1_9.length c1_9]) (t := 57) ?hr ?_; (case hd => rfl); (case hg => rfl); (case hr => first | (go_simp; done) | (go_simp; rfl)); intro gb227 hg w5 hbox hb; have n0_ := iE.mk (jG (g := gb226) (o := .cells #[.int .u8 a0_0, .int .u32 a0_1, .int .u32 a0_2, .slice A0_3 l0_3.length c0_3, .slice A0_4 l0_4.length c0_4, .int .u32 a0_5, .slice A0_6 l0_6.length c0_6, .int .i64 a0_7, .int .i64 a0_8, .slice A0_9 l0_9.length c0_9] 57 (0, 0)) (bk_ BK226.out) hb); have n1_ := iE.mk (iL (by repeat (first | (with_reducible first | exact HB.out | apply iG | apply iF | apply iH | refine iI ?_ GE226.out) | exact HB.out)) hb); have n2_ := iE.mk (hbox); have n3_ := iE.mk ((by rw [hg]; exact (iT (by repeat (first | (with_reducible first | exact HB.out | apply iG | apply iF | apply iH | refine iI ?_ GE226.out) | exact HB.out))) : w.heap.size ≤ gb227)); have n4_ := iE.mk ((by rw [hg]; exact (iT (by repeat (first | (with_reducible first | exact HB.out | apply iG | apply iF | apply iH | refine iI ?_ GE226.out) | exact HB.out))) : w.heap.size ≤ gb227)); have n5_ := iE.mk ((by rw [hg]; exact Nat.ne_of_lt (kL (g := gb226) (o := .cells #[.int .u8 a0_0, .int .u32 a0_1, .int .u32 a0_2, .slice A0_3 l0_3.length c0_3, .slice A0_4 l0_4.length c0_4, .int .u32 a0_5, .slice A0_6 l0_6.length c0_6, .int .i64 a0_7, .int .i64 a0_8, .slice A0_9 l0_9.length c0_9] 57 (0, 0)) (bk_ BK226.out)) : gb226 ≠ gb227)); have n6_ := iE.mk ((by rw [hg]; exact Nat.ne_of_gt (kL (g := gb226) (o := .cells #[.int .u8 a0_0, .int .u32 a0_1, .int .u32 a0_2, .slice A0_3 l0_3.length c0_3, .slice A0_4 l0_4.length c0_4, .int .u32 a0_5, .slice A0_6 l0_6.length c0_6, .int .i64 a0_7, .int .i64 a0_8, .slice A0_9 l0_9.length c0_9] 57 (0, 0)) (bk_ BK226.out)) : gb227 ≠ gb226)); clear BK226; clear HB; have BK226 := n0_; have HB := n1_; have BK227 := n2_; have GW227 := n3_; have GE227 := n4_; have NB226_227 := n5_; have NB227_226 := n6_; clear n0_ n1_ n2_ n3_ n4_ n5_ n6_; clear hb hbox hg))
  (try simp only [Act.put, List.setIfInBounds_toArray, List.set_cons_zero, List.set_cons_succ])
  go_cut [5] (fun v5 wc => ∃ (kq : Nat) (x5_2 : Bool), v5 = .bool x5_2 ∧ iE (stratumref07_Same.j0 kq x5_2 a0_0 a0_1 a0_2 l0_3 l0_4 a0_5 l0_6 a0_7 a0_8 l0_9 a1_0 a1_1 a1_2 l1_3 l1_4 a1_5 l1_6 a1_7 a1_8 l1_9 = some r) ∧ iE (kq ≤ k) ∧ iE (wc.heap[gb226]? = some (.cells #[.int .u8 a0_0, .int .u32 a0_1, .int .u32 a0_2, (.slice A0_3 l0_3.length c0_3), (.slice A0_4 l0_4.length c0_4), .int .u32 a0_5, (.slice A0_6 l0_6.length c0_6), .int .i64 a0_7, .int .i64 a0_8, (.slice A0_9 l0_9.length c0_9)] 57 (0, 0))) ∧ iE (wc.heap[gb227]? = some (.cells #[.int .u8 a1_0, .int .u32 a1_1, .int .u32 a1_2, (.slice A1_3 l1_3.length c1_3), (.slice A1_4 l1_4.length c1_4), .int .u32 a1_5, (.slice A1_6 l1_6.length c1_6), .int .i64 a1_7, .int .i64 a1_8, (.slice A1_9 l1_9.length c1_9)] 57 (0, 0))) ∧ iE (Below w.heap.size w wc))
  case first =>
    have H := HC3.out
    clear HC3
    by_cases c6 : a0_0 = a1_0
    · rw [if_pos c6] at H
      have c6b0 : (a0_0 == a1_0) = true := beq_iff_eq.mpr c6
      have c6b1 : (a0_0 != a1_0) = false := bne_eq_false_iff_eq.mpr c6
      clear c6
      (first | rw [c6b0] | (simp only [iW, jD]; rw [c6b0]) | skip)
      by_cases c7 : a0_1 = a1_1
      · rw [if_pos c7] at H
        have c7b0 : (a0_1 == a1_1) = true := beq_iff_eq.mpr c7
        have c7b1 : (a0_1 != a1_1) = false := bne_eq_false_iff_eq.mpr c7
        clear c7
        by_cases c8 : a0_2 = a1_2
        · rw [if_pos c8] at H
          have c8b0 : (a0_2 == a1_2) = true := beq_iff_eq.mpr c8
          have c8b1 : (a0_2 != a1_2) = false := bne_eq_false_iff_eq.mpr c8
          clear c8
          by_cases c9 : a0_7 = a1_7
          · rw [if_pos c9] at H
            have c9b0 : (a0_7 == a1_7) = true := beq_iff_eq.mpr c9
            have c9b1 : (a0_7 != a1_7) = false := bne_eq_false_iff_eq.mpr c9
            clear c9
            have H' := iE.mk H
            clear H
            have hnb10 := NB226_227.out
            have hnc10 := NB227_226.out
            have hcz11_0 : w5.cell? ⟨gb226, 0, none⟩ = some (.int .u8 a0_0) := (iD BK226.out 0).trans rfl
            have hcz11_1 : w5.cell? ⟨gb226, 1, none⟩ = some (.int .u32 a0_1) := (iD BK226.out 1).trans rfl
            have hcz11_2 : w5.cell? ⟨gb226, 2, none⟩ = some (.int .u32 a0_2) := (iD BK226.out 2).trans rfl
            have hcz11_3 : w5.cell? ⟨gb226, 3, none⟩ = some (.slice A0_3 l0_3.length c0_3) := (iD BK226.out 3).trans rfl
            have hcz11_4 : w5.cell? ⟨gb226, 4, none⟩ = some (.slice A0_4 l0_4.length c0_4) := (iD BK226.out 4).trans rfl
            have hcz11_5 : w5.cell? ⟨gb226, 5, none⟩ = some (.int .u32 a0_5) := (iD BK226.out 5).trans rfl
            have hcz11_6 : w5.cell? ⟨gb226, 6, none⟩ = some (.slice A0_6 l0_6.length c0_6) := (iD BK226.out 6).trans rfl
            have hcz11_7 : w5.cell? ⟨gb226, 7, none⟩ = some (.int .i64 a0_7) := (iD BK226.out 7).trans rfl
            have hcz11_8 : w5.cell? ⟨gb226, 8, none⟩ = some (.int .i64 a0_8) := (iD BK226.out 8).trans rfl
            have hcz11_9 : w5.cell? ⟨gb226, 9, none⟩ = some (.slice A0_9 l0_9.length c0_9) := (iD BK226.out 9).trans rfl
            have hfz11_0 := iC BK226.out 0
            have hfz11_1 := iC BK226.out 1
            have hfz11_2 := iC BK226.out 2
            have hfz11_3 := iC BK226.out 3
            have hfz11_4 := iC BK226.out 4
            have hfz11_5 := iC BK226.out 5
            have hfz11_6 := iC BK226.out 6
            have hfz11_7 := iC BK226.out 7
            have hfz11_8 := iC BK226.out 8
            have hfz11_9 := iC BK226.out 9
            have hcz12_0 : w5.cell? ⟨gb227, 0, none⟩ = some (.int .u8 a1_0) := (iD BK227.out 0).trans rfl
            have hcz12_1 : w5.cell? ⟨gb227, 1, none⟩ = some (.int .u32 a1_1) := (iD BK227.out 1).trans rfl
            have hcz12_2 : w5.cell? ⟨gb227, 2, none⟩ = some (.int .u32 a1_2) := (iD BK227.out 2).trans rfl
            have hcz12_3 : w5.cell? ⟨gb227, 3, none⟩ = some (.slice A1_3 l1_3.length c1_3) := (iD BK227.out 3).trans rfl
            have hcz12_4 : w5.cell? ⟨gb227, 4, none⟩ = some (.slice A1_4 l1_4.length c1_4) := (iD BK227.out 4).trans rfl
            have hcz12_5 : w5.cell? ⟨gb227, 5, none⟩ = some (.int .u32 a1_5) := (iD BK227.out 5).trans rfl
            have hcz12_6 : w5.cell? ⟨gb227, 6, none⟩ = some (.slice A1_6 l1_6.length c1_6) := (iD BK227.out 6).trans rfl
            have hcz12_7 : w5.cell? ⟨gb227, 7, none⟩ = some (.int .i64 a1_7) := (iD BK227.out 7).trans rfl
            have hcz12_8 : w5.cell? ⟨gb227, 8, none⟩ = some (.int .i64 a1_8) := (iD BK227.out 8).trans rfl
            have hcz12_9 : w5.cell? ⟨gb227, 9, none⟩ = some (.slice A1_9 l1_9.length c1_9) := (iD BK227.out 9).trans rfl
            have hfz12_0 := iC BK227.out 0
            have hfz12_1 := iC BK227.out 1
            have hfz12_2 := iC BK227.out 2
            have hfz12_3 := iC BK227.out 3
            have hfz12_4 := iC BK227.out 4
            have hfz12_5 := iC BK227.out 5
            have hfz12_6 := iC BK227.out 6
            have hfz12_7 := iC BK227.out 7
            have hfz12_8 := iC BK227.out 8
            have hfz12_9 := iC BK227.out 9
            go_wp2
            go_meet
            case rel => exact ⟨_, ((a0_8 == a1_8)), (by first | rfl | (simp; done) | (simp [*]; done)), H', ⟨by first | omega | exact Nat.le_refl _⟩, ⟨bk_ BK226.out⟩, ⟨bk_ BK227.out⟩, ⟨by repeat (first | (with_reducible first | exact HB.out | apply iG | apply iF | apply iH | refine iI ?_ GE226.out | refine iI ?_ GE227.out) | exact HB.out)⟩⟩
          · rw [if_neg c9] at H
            have c9b0 : (a0_7 == a1_7) = false := beq_eq_false_iff_ne.mpr c9
            have c9b1 : (a0_7 != a1_7) = true := bne_iff_ne.mpr c9
            have H' := iE.mk H
            clear H
            have hnb13 := NB226_227.out
            have hnc13 := NB227_226.out
            have hcz14_0 : w5.cell? ⟨gb226, 0, none⟩ = some (.int .u8 a0_0) := (iD BK226.out 0).trans rfl
            have hcz14_1 : w5.cell? ⟨gb226, 1, none⟩ = some (.int .u32 a0_1) := (iD BK226.out 1).trans rfl
            have hcz14_2 : w5.cell? ⟨gb226, 2, none⟩ = some (.int .u32 a0_2) := (iD BK226.out 2).trans rfl
            have hcz14_3 : w5.cell? ⟨gb226, 3, none⟩ = some (.slice A0_3 l0_3.length c0_3) := (iD BK226.out 3).trans rfl
            have hcz14_4 : w5.cell? ⟨gb226, 4, none⟩ = some (.slice A0_4 l0_4.length c0_4) := (iD BK226.out 4).trans rfl
            have hcz14_5 : w5.cell? ⟨gb226, 5, none⟩ = some (.int .u32 a0_5) := (iD BK226.out 5).trans rfl
            have hcz14_6 : w5.cell? ⟨gb226, 6, none⟩ = some (.slice A0_6 l0_6.length c0_6) := (iD BK226.out 6).trans rfl
            have hcz14_7 : w5.cell? ⟨gb226, 7, none⟩ = some (.int .i64 a0_7) := (iD BK226.out 7).trans rfl
            have hcz14_8 : w5.cell? ⟨gb226, 8, none⟩ = some (.int .i64 a0_8) := (iD BK226.out 8).trans rfl
            have hcz14_9 : w5.cell? ⟨gb226, 9, none⟩ = some (.slice A0_9 l0_9.length c0_9) := (iD BK226.out 9).trans rfl
            have hfz14_0 := iC BK226.out 0
            have hfz14_1 := iC BK226.out 1
            have hfz14_2 := iC BK226.out 2
            have hfz14_3 := iC BK226.out 3
            have hfz14_4 := iC BK226.out 4
            have hfz14_5 := iC BK226.out 5
            have hfz14_6 := iC BK226.out 6
            have hfz14_7 := iC BK226.out 7
            have hfz14_8 := iC BK226.out 8
            have hfz14_9 := iC BK226.out 9
            have hcz15_0 : w5.cell? ⟨gb227, 0, none⟩ = some (.int .u8 a1_0) := (iD BK227.out 0).trans rfl
            have hcz15_1 : w5.cell? ⟨gb227, 1, none⟩ = some (.int .u32 a1_1) := (iD BK227.out 1).trans rfl
            have hcz15_2 : w5.cell? ⟨gb227, 2, none⟩ = some (.int .u32 a1_2) := (iD BK227.out 2).trans rfl
            have hcz15_3 : w5.cell? ⟨gb227, 3, none⟩ = some (.slice A1_3 l1_3.length c1_3) := (iD BK227.out 3).trans rfl
            have hcz15_4 : w5.cell? ⟨gb227, 4, none⟩ = some (.slice A1_4 l1_4.length c1_4) := (iD BK227.out 4).trans rfl
            have hcz15_5 : w5.cell? ⟨gb227, 5, none⟩ = some (.int .u32 a1_5) := (iD BK227.out 5).trans rfl
            have hcz15_6 : w5.cell? ⟨gb227, 6, none⟩ = some (.slice A1_6 l1_6.length c1_6) := (iD BK227.out 6).trans rfl
            have hcz15_7 : w5.cell? ⟨gb227, 7, none⟩ = some (.int .i64 a1_7) := (iD BK227.out 7).trans rfl
            have hcz15_8 : w5.cell? ⟨gb227, 8, none⟩ = some (.int .i64 a1_8) := (iD BK227.out 8).trans rfl
            have hcz15_9 : w5.cell? ⟨gb227, 9, none⟩ = some (.slice A1_9 l1_9.length c1_9) := (iD BK227.out 9).trans rfl
            have hfz15_0 := iC BK227.out 0
            have hfz15_1 := iC BK227.out 1
            have hfz15_2 := iC BK227.out 2
            have hfz15_3 := iC BK227.out 3
            have hfz15_4 := iC BK227.out 4
            have hfz15_5 := iC BK227.out 5
            have hfz15_6 := iC BK227.out 6
            have hfz15_7 := iC BK227.out 7
            have hfz15_8 := iC BK227.out 8
            have hfz15_9 := iC BK227.out 9
            go_wp2
            go_meet
            case rel => exact ⟨_, (false), (by first | rfl | (simp; done) | (simp [*]; done)), H', ⟨by first | omega | exact Nat.le_refl _⟩, ⟨bk_ BK226.out⟩, ⟨bk_ BK227.out⟩, ⟨by repeat (first | (with_reducible first | exact HB.out | apply iG | apply iF | apply iH | refine iI ?_ GE226.out | refine iI ?_ GE227.out) | exact HB.out)⟩⟩
        · rw [if_neg c8] at H
          have c8b0 : (a0_2 == a1_2) = false := beq_eq_false_iff_ne.mpr c8
          have c8b1 : (a0_2 != a1_2) = true := bne_iff_ne.mpr c8
          have H' := iE.mk H
          clear H
          have hnb16 := NB226_227.out
          have hnc16 := NB227_226.out
          have hcz17_0 : w5.cell? ⟨gb226, 0, none⟩ = some (.int .u8 a0_0) := (iD BK226.out 0).trans rfl
          have hcz17_1 : w5.cell? ⟨gb226, 1, none⟩ = some (.int .u32 a0_1) := (iD BK226.out 1).trans rfl
          have hcz17_2 : w5.cell? ⟨gb226, 2, none⟩ = some (.int .u32 a0_2) := (iD BK226.out 2).trans rfl
          have hcz17_3 : w5.cell? ⟨gb226, 3, none⟩ = some (.slice A0_3 l0_3.length c0_3) := (iD BK226.out 3).trans rfl
          have hcz17_4 : w5.cell? ⟨gb226, 4, none⟩ = some (.slice A0_4 l0_4.length c0_4) := (iD BK226.out 4).trans rfl
          have hcz17_5 : w5.cell? ⟨gb226, 5, none⟩ = some (.int .u32 a0_5) := (iD BK226.out 5).trans rfl
          have hcz17_6 : w5.cell? ⟨gb226, 6, none⟩ = some (.slice A0_6 l0_6.length c0_6) := (iD BK226.out 6).trans rfl
          have hcz17_7 : w5.cell? ⟨gb226, 7, none⟩ = some (.int .i64 a0_7) := (iD BK226.out 7).trans rfl
          have hcz17_8 : w5.cell? ⟨gb226, 8, none⟩ = some (.int .i64 a0_8) := (iD BK226.out 8).trans rfl
          have hcz17_9 : w5.cell? ⟨gb226, 9, none⟩ = some (.slice A0_9 l0_9.length c0_9) := (iD BK226.out 9).trans rfl
          have hfz17_0 := iC BK226.out 0
          have hfz17_1 := iC BK226.out 1
          have hfz17_2 := iC BK226.out 2
          have hfz17_3 := iC BK226.out 3
          have hfz17_4 := iC BK226.out 4
          have hfz17_5 := iC BK226.out 5
          have hfz17_6 := iC BK226.out 6
          have hfz17_7 := iC BK226.out 7
          have hfz17_8 := iC BK226.out 8
          have hfz17_9 := iC BK226.out 9
          have hcz18_0 : w5.cell? ⟨gb227, 0, none⟩ = some (.int .u8 a1_0) := (iD BK227.out 0).trans rfl
          have hcz18_1 : w5.cell? ⟨gb227, 1, none⟩ = some (.int .u32 a1_1) := (iD BK227.out 1).trans rfl
          have hcz18_2 : w5.cell? ⟨gb227, 2, none⟩ = some (.int .u32 a1_2) := (iD BK227.out 2).trans rfl
          have hcz18_3 : w5.cell? ⟨gb227, 3, none⟩ = some (.slice A1_3 l1_3.length c1_3) := (iD BK227.out 3).trans rfl
          have hcz18_4 : w5.cell? ⟨gb227, 4, none⟩ = some (.slice A1_4 l1_4.length c1_4) := (iD BK227.out 4).trans rfl
          have hcz18_5 : w5.cell? ⟨gb227, 5, none⟩ = some (.int .u32 a1_5) := (iD BK227.out 5).trans rfl
          have hcz18_6 : w5.cell? ⟨gb227, 6, none⟩ = some (.slice A1_6 l1_6.length c1_6) := (iD BK227.out 6).trans rfl
          have hcz18_7 : w5.cell? ⟨gb227, 7, none⟩ = some (.int .i64 a1_7) := (iD BK227.out 7).trans rfl
          have hcz18_8 : w5.cell? ⟨gb227, 8, none⟩ = some (.int .i64 a1_8) := (iD BK227.out 8).trans rfl
          have hcz18_9 : w5.cell? ⟨gb227, 9, none⟩ = some (.slice A1_9 l1_9.length c1_9) := (iD BK227.out 9).trans rfl
          have hfz18_0 := iC BK227.out 0
          have hfz18_1 := iC BK227.out 1
          have hfz18_2 := iC BK227.out 2
          have hfz18_3 := iC BK227.out 3
          have hfz18_4 := iC BK227.out 4
          have hfz18_5 := iC BK227.out 5
          have hfz18_6 := iC BK227.out 6
          have hfz18_7 := iC BK227.out 7
          have hfz18_8 := iC BK227.out 8
          have hfz18_9 := iC BK227.out 9
          go_wp2
          go_meet
          case rel => exact ⟨_, (false), (by first | rfl | (simp; done) | (simp [*]; done)), H', ⟨by first | omega | exact Nat.le_refl _⟩, ⟨bk_ BK226.out⟩, ⟨bk_ BK227.out⟩, ⟨by repeat (first | (with_reducible first | exact HB.out | apply iG | apply iF | apply iH | refine iI ?_ GE226.out | refine iI ?_ GE227.out) | exact HB.out)⟩⟩
      · rw [if_neg c7] at H
        have c7b0 : (a0_1 == a1_1) = false := beq_eq_false_iff_ne.mpr c7
        have c7b1 : (a0_1 != a1_1) = true := bne_iff_ne.mpr c7
        have H' := iE.mk H
        clear H
        have hnb19 := NB226_227.out
        have hnc19 := NB227_226.out
        have hcz20_0 : w5.cell? ⟨gb226, 0, none⟩ = some (.int .u8 a0_0) := (iD BK226.out 0).trans rfl
        have hcz20_1 : w5.cell? ⟨gb226, 1, none⟩ = some (.int .u32 a0_1) := (iD BK226.out 1).trans rfl
        have hcz20_2 : w5.cell? ⟨gb226, 2, none⟩ = some (.int .u32 a0_2) := (iD BK226.out 2).trans rfl
        have hcz20_3 : w5.cell? ⟨gb226, 3, none⟩ = some (.slice A0_3 l0_3.length c0_3) := (iD BK226.out 3).trans rfl
        have hcz20_4 : w5.cell? ⟨gb226, 4, none⟩ = some (.slice A0_4 l0_4.length c0_4) := (iD BK226.out 4).trans rfl
        have hcz20_5 : w5.cell? ⟨gb226, 5, none⟩ = some (.int .u32 a0_5) := (iD BK226.out 5).trans rfl
        have hcz20_6 : w5.cell? ⟨gb226, 6, none⟩ = some (.slice A0_6 l0_6.length c0_6) := (iD BK226.out 6).trans rfl
        have hcz20_7 : w5.cell? ⟨gb226, 7, none⟩ = some (.int .i64 a0_7) := (iD BK226.out 7).trans rfl
        have hcz20_8 : w5.cell? ⟨gb226, 8, none⟩ = some (.int .i64 a0_8) := (iD BK226.out 8).trans rfl
        have hcz20_9 : w5.cell? ⟨gb226, 9, none⟩ = some (.slice A0_9 l0_9.length c0_9) := (iD BK226.out 9).trans rfl
        have hfz20_0 := iC BK226.out 0
        have hfz20_1 := iC BK226.out 1
        have hfz20_2 := iC BK226.out 2
        have hfz20_3 := iC BK226.out 3
        have hfz20_4 := iC BK226.out 4
        have hfz20_5 := iC BK226.out 5
        have hfz20_6 := iC BK226.out 6
        have hfz20_7 := iC BK226.out 7
        have hfz20_8 := iC BK226.out 8
        have hfz20_9 := iC BK226.out 9
        have hcz21_0 : w5.cell? ⟨gb227, 0, none⟩ = some (.int .u8 a1_0) := (iD BK227.out 0).trans rfl
        have hcz21_1 : w5.cell? ⟨gb227, 1, none⟩ = some (.int .u32 a1_1) := (iD BK227.out 1).trans rfl
        have hcz21_2 : w5.cell? ⟨gb227, 2, none⟩ = some (.int .u32 a1_2) := (iD BK227.out 2).trans rfl
        have hcz21_3 : w5.cell? ⟨gb227, 3, none⟩ = some (.slice A1_3 l1_3.length c1_3) := (iD BK227.out 3).trans rfl
        have hcz21_4 : w5.cell? ⟨gb227, 4, none⟩ = some (.slice A1_4 l1_4.length c1_4) := (iD BK227.out 4).trans rfl
        have hcz21_5 : w5.cell? ⟨gb227, 5, none⟩ = some (.int .u32 a1_5) := (iD BK227.out 5).trans rfl
        have hcz21_6 : w5.cell? ⟨gb227, 6, none⟩ = some (.slice A1_6 l1_6.length c1_6) := (iD BK227.out 6).trans rfl
        have hcz21_7 : w5.cell? ⟨gb227, 7, none⟩ = some (.int .i64 a1_7) := (iD BK227.out 7).trans rfl
        have hcz21_8 : w5.cell? ⟨gb227, 8, none⟩ = some (.int .i64 a1_8) := (iD BK227.out 8).trans rfl
        have hcz21_9 : w5.cell? ⟨gb227, 9, none⟩ = some (.slice A1_9 l1_9.length c1_9) := (iD BK227.out 9).trans rfl
        have hfz21_0 := iC BK227.out 0
        have hfz21_1 := iC BK227.out 1
        have hfz21_2 := iC BK227.out 2
        have hfz21_3 := iC BK227.out 3
        have hfz21_4 := iC BK227.out 4
        have hfz21_5 := iC BK227.out 5
        have hfz21_6 := iC BK227.out 6
        have hfz21_7 := iC BK227.out 7
        have hfz21_8 := iC BK227.out 8
        have hfz21_9 := iC BK227.out 9
        go_wp2
        go_meet
        case rel => exact ⟨_, (false), (by first | rfl | (simp; done) | (simp [*]; done)), H', ⟨by first | omega | exact Nat.le_refl _⟩, ⟨bk_ BK226.out⟩, ⟨bk_ BK227.out⟩, ⟨by repeat (first | (with_reducible first | exact HB.out | apply iG | apply iF | apply iH | refine iI ?_ GE226.out | refine iI ?_ GE227.out) | exact HB.out)⟩⟩
    · rw [if_neg c6] at H
      have c6b0 : (a0_0 == a1_0) = false := beq_eq_false_iff_ne.mpr c6
      have c6b1 : (a0_0 != a1_0) = true := bne_iff_ne.mpr c6
      (first | rw [c6b0] | (simp only [iW, jD]; rw [c6b0]) | skip)
      have H' := iE.mk H
      clear H
      have hnb22 := NB226_227.out
      have hnc22 := NB227_226.out
      have hcz23_0 : w5.cell? ⟨gb226, 0, none⟩ = some (.int .u8 a0_0) := (iD BK226.out 0).trans rfl
      have hcz23_1 : w5.cell? ⟨gb226, 1, none⟩ = some (.int .u32 a0_1) := (iD BK226.out 1).trans rfl
      have hcz23_2 : w5.cell? ⟨gb226, 2, none⟩ = some (.int .u32 a0_2) := (iD BK226.out 2).trans rfl
      have hcz23_3 : w5.cell? ⟨gb226, 3, none⟩ = some (.slice A0_3 l0_3.length c0_3) := (iD BK226.out 3).trans rfl
      have hcz23_4 : w5.cell? ⟨gb226, 4, none⟩ = some (.slice A0_4 l0_4.length c0_4) := (iD BK226.out 4).trans rfl
      have hcz23_5 : w5.cell? ⟨gb226, 5, none⟩ = some (.int .u32 a0_5) := (iD BK226.out 5).trans rfl
      have hcz23_6 : w5.cell? ⟨gb226, 6, none⟩ = some (.slice A0_6 l0_6.length c0_6) := (iD BK226.out 6).trans rfl
      have hcz23_7 : w5.cell? ⟨gb226, 7, none⟩ = some (.int .i64 a0_7) := (iD BK226.out 7).trans rfl
      have hcz23_8 : w5.cell? ⟨gb226, 8, none⟩ = some (.int .i64 a0_8) := (iD BK226.out 8).trans rfl
      have hcz23_9 : w5.cell? ⟨gb226, 9, none⟩ = some (.slice A0_9 l0_9.length c0_9) := (iD BK226.out 9).trans rfl
      have hfz23_0 := iC BK226.out 0
      have hfz23_1 := iC BK226.out 1
      have hfz23_2 := iC BK226.out 2
      have hfz23_3 := iC BK226.out 3
      have hfz23_4 := iC BK226.out 4
      have hfz23_5 := iC BK226.out 5
      have hfz23_6 := iC BK226.out 6
      have hfz23_7 := iC BK226.out 7
      have hfz23_8 := iC BK226.out 8
      have hfz23_9 := iC BK226.out 9
      have hcz24_0 : w5.cell? ⟨gb227, 0, none⟩ = some (.int .u8 a1_0) := (iD BK227.out 0).trans rfl
      have hcz24_1 : w5.cell? ⟨gb227, 1, none⟩ = some (.int .u32 a1_1) := (iD BK227.out 1).trans rfl
      have hcz24_2 : w5.cell? ⟨gb227, 2, none⟩ = some (.int .u32 a1_2) := (iD BK227.out 2).trans rfl
      have hcz24_3 : w5.cell? ⟨gb227, 3, none⟩ = some (.slice A1_3 l1_3.length c1_3) := (iD BK227.out 3).trans rfl
      have hcz24_4 : w5.cell? ⟨gb227, 4, none⟩ = some (.slice A1_4 l1_4.length c1_4) := (iD BK227.out 4).trans rfl
      have hcz24_5 : w5.cell? ⟨gb227, 5, none⟩ = some (.int .u32 a1_5) := (iD BK227.out 5).trans rfl
      have hcz24_6 : w5.cell? ⟨gb227, 6, none⟩ = some (.slice A1_6 l1_6.length c1_6) := (iD BK227.out 6).trans rfl
      have hcz24_7 : w5.cell? ⟨gb227, 7, none⟩ = some (.int .i64 a1_7) := (iD BK227.out 7).trans rfl
      have hcz24_8 : w5.cell? ⟨gb227, 8, none⟩ = some (.int .i64 a1_8) := (iD BK227.out 8).trans rfl
      have hcz24_9 : w5.cell? ⟨gb227, 9, none⟩ = some (.slice A1_9 l1_9.length c1_9) := (iD BK227.out 9).trans rfl
      have hfz24_0 := iC BK227.out 0
      have hfz24_1 := iC BK227.out 1
      have hfz24_2 := iC BK227.out 2
      have hfz24_3 := iC BK227.out 3
      have hfz24_4 := iC BK227.out 4
      have hfz24_5 := iC BK227.out 5
      have hfz24_6 := iC BK227.out 6
      have hfz24_7 := iC BK227.out 7
      have hfz24_8 := iC BK227.out 8
      have hfz24_9 := iC BK227.out 9
      go_wp2
      go_meet
      case rel => exact ⟨_, (false), (by first | rfl | (simp; done) | (simp [*]; done)), H', ⟨by first | omega | exact Nat.le_refl _⟩, ⟨bk_ BK226.out⟩, ⟨bk_ BK227.out⟩, ⟨by repeat (first | (with_reducible first | exact HB.out | apply iG | apply iF | apply iH | refine iI ?_ GE226.out | refine iI ?_ GE227.out) | exact HB.out)⟩⟩
  case rest =>
    clear HC3
    try clear c1
    try clear c2
    try clear p2
    try clear c4
    try clear c6
    try clear c6b0
    try clear c6b1
    try clear c7
    try clear c7b0
    try clear c7b1
    try clear c8
    try clear c8b0
    try clear c8b1
    try clear c9
    try clear c9b0
    try clear c9b1
    try clear c10
    try clear c13
    try clear c16
    try clear c19
    try clear c22
    try clear hcz11_0
    try clear hcz11_1
    try clear hcz11_2
    try clear hcz11_3
    try clear hcz11_4
    try clear hcz11_5
    try clear hcz11_6
    try clear hcz11_7
    try clear hcz11_8
    try clear hcz11_9
    try clear hcz12_0
    try clear hcz12_1
    try clear hcz12_2
    try clear hcz12_3
    try clear hcz12_4
    try clear hcz12_5
    try clear hcz12_6
    try clear hcz12_7
    try clear hcz12_8
    try clear hcz12_9
    try clear hcz14_0
    try clear hcz14_1
    try clear hcz14_2
    try clear hcz14_3
    try clear hcz14_4
    try clear hcz14_5
    try clear hcz14_6
    try clear hcz14_7
    try clear hcz14_8
    try clear hcz14_9
    try clear hcz15_0
    try clear hcz15_1
    try clear hcz15_2
    try clear hcz15_3
    try clear hcz15_4
    try clear hcz15_5
    try clear hcz15_6
    try clear hcz15_7
    try clear hcz15_8
    try clear hcz15_9
    try clear hcz17_0
    try clear hcz17_1
    try clear hcz17_2
    try clear hcz17_3
    try clear hcz17_4
    try clear hcz17_5
    try clear hcz17_6
    try clear hcz17_7
    try clear hcz17_8
    try clear hcz17_9
    try clear hcz18_0
    try clear hcz18_1
    try clear hcz18_2
    try clear hcz18_3
    try clear hcz18_4
    try clear hcz18_5
    try clear hcz18_6
    try clear hcz18_7
    try clear hcz18_8
    try clear hcz18_9
    try clear hcz20_0
    try clear hcz20_1
    try clear hcz20_2
    try clear hcz20_3
    try clear hcz20_4
    try clear hcz20_5
    try clear hcz20_6
    try clear hcz20_7
    try clear hcz20_8
    try clear hcz20_9
    try clear hcz21_0
    try clear hcz21_1
    try clear hcz21_2
    try clear hcz21_3
    try clear hcz21_4
    try clear hcz21_5
    try clear hcz21_6
    try clear hcz21_7
    try clear hcz21_8
    try clear hcz21_9
    try clear hcz23_0
    try clear hcz23_1
    try clear hcz23_2
    try clear hcz23_3
    try clear hcz23_4
    try clear hcz23_5
    try clear hcz23_6
    try clear hcz23_7
    try clear hcz23_8
    try clear hcz23_9
    try clear hcz24_0
    try clear hcz24_1
    try clear hcz24_2
    try clear hcz24_3
    try clear hcz24_4
    try clear hcz24_5
    try clear hcz24_6
    try clear hcz24_7
    try clear hcz24_8
    try clear hcz24_9
    try clear hfz11_0
    try clear hfz11_1
    try clear hfz11_2
    try clear hfz11_3
    try clear hfz11_4
    try clear hfz11_5
    try clear hfz11_6
    try clear hfz11_7
    try clear hfz11_8
    try clear hfz11_9
    try clear hfz12_0
    try clear hfz12_1
    try clear hfz12_2
    try clear hfz12_3
    try clear hfz12_4
    try clear hfz12_5
    try clear hfz12_6
    try clear hfz12_7
    try clear hfz12_8
    try clear hfz12_9
    try clear hfz14_0
    try clear hfz14_1
    try clear hfz14_2
    try clear hfz14_3
    try clear hfz14_4
    try clear hfz14_5
    try clear hfz14_6
    try clear hfz14_7
    try clear hfz14_8
    try clear hfz14_9
    try clear hfz15_0
    try clear hfz15_1
    try clear hfz15_2
    try clear hfz15_3
    try clear hfz15_4
    try clear hfz15_5
    try clear hfz15_6
    try clear hfz15_7
    try clear hfz15_8
    try clear hfz15_9
    try clear hfz17_0
    try clear hfz17_1
    try clear hfz17_2
    try clear hfz17_3
    try clear hfz17_4
    try clear hfz17_5
    try clear hfz17_6
    try clear hfz17_7
    try clear hfz17_8
    try clear hfz17_9
    try clear hfz18_0
    try clear hfz18_1
    try clear hfz18_2
    try clear hfz18_3
    try clear hfz18_4
    try clear hfz18_5
    try clear hfz18_6
    try clear hfz18_7
    try clear hfz18_8
    try clear hfz18_9
    try clear hfz20_0
    try clear hfz20_1
    try clear hfz20_2
    try clear hfz20_3
    try clear hfz20_4
    try clear hfz20_5
    try clear hfz20_6
    try clear hfz20_7
    try clear hfz20_8
    try clear hfz20_9
    try clear hfz21_0
    try clear hfz21_1
    try clear hfz21_2
    try clear hfz21_3
    try clear hfz21_4
    try clear hfz21_5
    try clear hfz21_6
    try clear hfz21_7
    try clear hfz21_8
    try clear hfz21_9
    try clear hfz23_0
    try clear hfz23_1
    try clear hfz23_2
    try clear hfz23_3
    try clear hfz23_4
    try clear hfz23_5
    try clear hfz23_6
    try clear hfz23_7
    try clear hfz23_8
    try clear hfz23_9
    try clear hfz24_0
    try clear hfz24_1
    try clear hfz24_2
    try clear hfz24_3
    try clear hfz24_4
    try clear hfz24_5
    try clear hfz24_6
    try clear hfz24_7
    try clear hfz24_8
    try clear hfz24_9
    obtain ⟨kq, x5_2, rfl, HA, HJ2, BK226, BK227, HB⟩ := hcut
    cases kq with
    | zero => exact absurd HA.out (by simp [stratumref07_Same.j0])
    | succ kj2 =>
      have H := HA.out
      clear HA
      simp only [stratumref07_Same.j0] at H
      by_cases c25 : x5_2 = true
      · subst c25
        have H1 : ((stratumref07_SameInts.f kj2 l0_3 l1_3).bind fun t228 => (if t228 = true then ((stratumref07_SameFacts.f kj2 l0_4 l1_4).bind fun t229 => (if t229 = true then ((stratumref07_SameMap.f kj2 a0_5 l0_6 a1_5 l1_6).bind fun t230 => (if t230 = true then ((stratumref07_SameEntries.f l0_9 l1_9).bind fun t231 => (some t231)) else (some false))) else (some false))) else (some false))) = some r := by rw [if_pos rfl] at H; exact H
        clear H
        have H := H1
        clear H1
        replace H := Option.bind_eq_some_iff.mp H
        obtain ⟨t228, A260, H⟩ := H
        replace H : (if t228 = true then ((stratumref07_SameFacts.f kj2 l0_4 l1_4).bind fun t229 => (if t229 = true then ((stratumref07_SameMap.f kj2 a0_5 l0_6 a1_5 l1_6).bind fun t230 => (if t230 = true then ((stratumref07_SameEntries.f l0_9 l1_9).bind fun t231 => (some t231)) else (some false))) else (some false))) else (some false)) = some r := H
        have A26 := iE.mk A260
        clear A260
        by_cases c27 : t228 = true
        · subst c27
          have H1 : ((stratumref07_SameFacts.f kj2 l0_4 l1_4).bind fun t229 => (if t229 = true then ((stratumref07_SameMap.f kj2 a0_5 l0_6 a1_5 l1_6).bind fun t230 => (if t230 = true then ((stratumref07_SameEntries.f l0_9 l1_9).bind fun t231 => (some t231)) else (some false))) else (some false))) = some r := by rw [if_pos rfl] at H; exact H
          clear H
          have H := H1
          clear H1
          replace H := Option.bind_eq_some_iff.mp H
          obtain ⟨t229, A280, H⟩ := H
          replace H : (if t229 = true then ((stratumref07_SameMap.f kj2 a0_5 l0_6 a1_5 l1_6).bind fun t230 => (if t230 = true then ((stratumref07_SameEntries.f l0_9 l1_9).bind fun t231 => (some t231)) else (some false))) else (some false)) = some r := H
          have A28 := iE.mk A280
          clear A280
          by_cases c29 : t229 = true
          · subst c29
            have H1 : ((stratumref07_SameMap.f kj2 a0_5 l0_6 a1_5 l1_6).bind fun t230 => (if t230 = true then ((stratumref07_SameEntries.f l0_9 l1_9).bind fun t231 => (some t231)) else (some false))) = some r := by rw [if_pos rfl] at H; exact H
            clear H
            have H := H1
            clear H1
            replace H := Option.bind_eq_some_iff.mp H
            obtain ⟨t230, A300, H⟩ := H
            replace H : (if t230 = true then ((stratumref07_SameEntries.f l0_9 l1_9).bind fun t231 => (some t231)) else (some false)) = some r := H
            have A30 := iE.mk A300
            clear A300
            by_cases c31 : t230 = true
            · subst c31
              have H1 : ((stratumref07_SameEntries.f l0_9 l1_9).bind fun t231 => (some t231)) = some r := by rw [if_pos rfl] at H; exact H
              clear H
              have H := H1
              clear H1
              replace H := Option.bind_eq_some_iff.mp H
              obtain ⟨t231, A320, H⟩ := H
              replace H : (some t231) = some r := H
              have A32 := iE.mk A320
              clear A320
              obtain rfl := Option.some.inj H
              have hnb33 := NB226_227.out
              have hnc33 := NB227_226.out
              have hcz34_0 : wc.cell? ⟨gb226, 0, none⟩ = some (.int .u8 a0_0) := (iD BK226.out 0).trans rfl
              have hcz34_1 : wc.cell? ⟨gb226, 1, none⟩ = some (.int .u32 a0_1) := (iD BK226.out 1).trans rfl
              have hcz34_2 : wc.cell? ⟨gb226, 2, none⟩ = some (.int .u32 a0_2) := (iD BK226.out 2).trans rfl
              have hcz34_3 : wc.cell? ⟨gb226, 3, none⟩ = some (.slice A0_3 l0_3.length c0_3) := (iD BK226.out 3).trans rfl
              have hcz34_4 : wc.cell? ⟨gb226, 4, none⟩ = some (.slice A0_4 l0_4.length c0_4) := (iD BK226.out 4).trans rfl
              have hcz34_5 : wc.cell? ⟨gb226, 5, none⟩ = some (.int .u32 a0_5) := (iD BK226.out 5).trans rfl
              have hcz34_6 : wc.cell? ⟨gb226, 6, none⟩ = some (.slice A0_6 l0_6.length c0_6) := (iD BK226.out 6).trans rfl
              have hcz34_7 : wc.cell? ⟨gb226, 7, none⟩ = some (.int .i64 a0_7) := (iD BK226.out 7).trans rfl
              have hcz34_8 : wc.cell? ⟨gb226, 8, none⟩ = some (.int .i64 a0_8) := (iD BK226.out 8).trans rfl
              have hcz34_9 : wc.cell? ⟨gb226, 9, none⟩ = some (.slice A0_9 l0_9.length c0_9) := (iD BK226.out 9).trans rfl
              have hfz34_0 := iC BK226.out 0
              have hfz34_1 := iC BK226.out 1
              have hfz34_2 := iC BK226.out 2
              have hfz34_3 := iC BK226.out 3
              have hfz34_4 := iC BK226.out 4
              have hfz34_5 := iC BK226.out 5
              have hfz34_6 := iC BK226.out 6
              have hfz34_7 := iC BK226.out 7
              have hfz34_8 := iC BK226.out 8
              have hfz34_9 := iC BK226.out 9
              have hcz35_0 : wc.cell? ⟨gb227, 0, none⟩ = some (.int .u8 a1_0) := (iD BK227.out 0).trans rfl
              have hcz35_1 : wc.cell? ⟨gb227, 1, none⟩ = some (.int .u32 a1_1) := (iD BK227.out 1).trans rfl
              have hcz35_2 : wc.cell? ⟨gb227, 2, none⟩ = some (.int .u32 a1_2) := (iD BK227.out 2).trans rfl
              have hcz35_3 : wc.cell? ⟨gb227, 3, none⟩ = some (.slice A1_3 l1_3.length c1_3) := (iD BK227.out 3).trans rfl
              have hcz35_4 : wc.cell? ⟨gb227, 4, none⟩ = some (.slice A1_4 l1_4.length c1_4) := (iD BK227.out 4).trans rfl
              have hcz35_5 : wc.cell? ⟨gb227, 5, none⟩ = some (.int .u32 a1_5) := (iD BK227.out 5).trans rfl
              have hcz35_6 : wc.cell? ⟨gb227, 6, none⟩ = some (.slice A1_6 l1_6.length c1_6) := (iD BK227.out 6).trans rfl
              have hcz35_7 : wc.cell? ⟨gb227, 7, none⟩ = some (.int .i64 a1_7) := (iD BK227.out 7).trans rfl
              have hcz35_8 : wc.cell? ⟨gb227, 8, none⟩ = some (.int .i64 a1_8) := (iD BK227.out 8).trans rfl
              have hcz35_9 : wc.cell? ⟨gb227, 9, none⟩ = some (.slice A1_9 l1_9.length c1_9) := (iD BK227.out 9).trans rfl
              have hfz35_0 := iC BK227.out 0
              have hfz35_1 := iC BK227.out 1
              have hfz35_2 := iC BK227.out 2
              have hfz35_3 := iC BK227.out 3
              have hfz35_4 := iC BK227.out 4
              have hfz35_5 := iC BK227.out 5
              have hfz35_6 := iC BK227.out 6
              have hfz35_7 := iC BK227.out 7
              have hfz35_8 := iC BK227.out 8
              have hfz35_9 := iC BK227.out 9
              go_wp2_with (first | (go_at_call 58; (with_reducible refine (stratumref07_SameInts.calls kj2 _ _ l0_3 _ _ l1_3 true _ ?side1 ?side2 ?side3 ?side4 A26.out).mono ?_); (case side1 => repeat (first | exact (Kd.C_below HR0_3.out HB.out) | (with_reducible refine Kd.C_alloc ?_ _) | (with_reducible refine Kd.C_drewN ?_ _) | (with_reducible refine Kd.C_drew ?_))); (case side2 => exact HC0_3.out); (case side3 => repeat (first | exact (Kd.C_below HR1_3.out HB.out) | (with_reducible refine Kd.C_alloc ?_ _) | (with_reducible refine Kd.C_drewN ?_ _) | (with_reducible refine Kd.C_drew ?_))); (case side4 => exact HC1_3.out); rintro e w' ⟨rfl, ⟨nd, rfl⟩⟩) | (go_at_call 105; (with_reducible refine (stratumref07_SameFacts.calls kj2 _ _ l0_4 _ _ l1_4 true _ ?side1 ?side2 ?side3 ?side4 A28.out).mono ?_); (case side1 => repeat (first | exact (Kd.C_below HR0_4.out (by repeat (first | (with_reducible first | exact HB.out | apply iG | apply iF | apply iH | refine iI ?_ GE226.out | refine iI ?_ GE227.out) | exact HB.out))) | (with_reducible refine Kd.C_alloc ?_ _) | (with_reducible refine Kd.C_drewN ?_ _) | (with_reducible refine Kd.C_drew ?_))); (case side2 => exact HC0_4.out); (case side3 => repeat (first | exact (Kd.C_below HR1_4.out (by repeat (first | (with_reducible first | exact HB.out | apply iG | apply iF | apply iH | refine iI ?_ GE226.out | refine iI ?_ GE227.out) | exact HB.out))) | (with_reducible refine Kd.C_alloc ?_ _) | (with_reducible refine Kd.C_drewN ?_ _) | (with_reducible refine Kd.C_drew ?_))); (case side4 => exact HC1_4.out); rintro e w36 ⟨rfl, hb⟩; have n0_ := iE.mk (jG (g := gb226) (o := .cells #[.int .u8 a0_0, .int .u32 a0_1, .int .u32 a0_2, .slice A0_3 l0_3.length c0_3, .slice A0_4 l0_4.length c0_4, .int .u32 a0_5, .slice A0_6 l0_6.length c0_6, .int .i64 a0_7, .int .i64 a0_8, .slice A0_9 l0_9.length c0_9] 57 (0, 0)) (bk_ BK226.out) hb); have n1_ := iE.mk (jG (g := gb227) (o := .cells #[.int .u8 a1_0, .int .u32 a1_1, .int .u32 a1_2, .slice A1_3 l1_3.length c1_3, .slice A1_4 l1_4.length c1_4, .int .u32 a1_5, .slice A1_6 l1_6.length c1_6, .int .i64 a1_7, .int .i64 a1_8, .slice A1_9 l1_9.length c1_9] 57 (0, 0)) (bk_ BK227.out) hb); have n2_ := iE.mk (iL (by repeat (first | (with_reducible first | exact HB.out | apply iG | apply iF | apply iH | refine iI ?_ GE226.out | refine iI ?_ GE227.out) | exact HB.out)) hb); clear BK226; clear BK227; clear HB; have BK226 := n0_; have BK227 := n1_; have HB := n2_; clear n0_ n1_ n2_; (try clear hb); (try clear hb2); (try clear hk); (try clear hi); have hcz37_0 : w36.cell? ⟨gb226, 0, none⟩ = some (.int .u8 a0_0) := (iD BK226.out 0).trans rfl; have hcz37_1 : w36.cell? ⟨gb226, 1, none⟩ = some (.int .u32 a0_1) := (iD BK226.out 1).trans rfl; have hcz37_2 : w36.cell? ⟨gb226, 2, none⟩ = some (.int .u32 a0_2) := (iD BK226.out 2).trans rfl; have hcz37_3 : w36.cell? ⟨gb226, 3, none⟩ = some (.slice A0_3 l0_3.length c0_3) := (iD BK226.out 3).trans rfl; have hcz37_4 : w36.cell? ⟨gb226, 4, none⟩ = some (.slice A0_4 l0_4.length c0_4) := (iD BK226.out 4).trans rfl; have hcz37_5 : w36.cell? ⟨gb226, 5, none⟩ = some (.int .u32 a0_5) := (iD BK226.out 5).trans rfl; have hcz37_6 : w36.cell? ⟨gb226, 6, none⟩ = some (.slice A0_6 l0_6.length c0_6) := (iD BK226.out 6).trans rfl; have hcz37_7 : w36.cell? ⟨gb226, 7, none⟩ = some (.int .i64 a0_7) := (iD BK226.out 7).trans rfl; have hcz37_8 : w36.cell? ⟨gb226, 8, none⟩ = some (.int .i64 a0_8) := (iD BK226.out 8).trans rfl; have hcz37_9 : w36.cell? ⟨gb226, 9, none⟩ = some (.slice A0_9 l0_9.length c0_9) := (iD BK226.out 9).trans rfl; have hfz37_0 := iC BK226.out 0; have hfz37_1 := iC BK226.out 1; have hfz37_2 := iC BK226.out 2; have hfz37_3 := iC BK226.out 3; have hfz37_4 := iC BK226.out 4; have hfz37_5 := iC BK226.out 5; have hfz37_6 := iC BK226.out 6; have hfz37_7 := iC BK226.out 7; have hfz37_8 := iC BK226.out 8; have hfz37_9 := iC BK226.out 9; have hcz38_0 : w36.cell? ⟨gb227, 0, none⟩ = some (.int .u8 a1_0) := (iD BK227.out 0).trans rfl; have hcz38_1 : w36.cell? ⟨gb227, 1, none⟩ = some (.int .u32 a1_1) := (iD BK227.out 1).trans rfl; have hcz38_2 : w36.cell? ⟨gb227, 2, none⟩ = some (.int .u32 a1_2) := (iD BK227.out 2).trans rfl; have hcz38_3 : w36.cell? ⟨gb227, 3, none⟩ = some (.slice A1_3 l1_3.length c1_3) := (iD BK227.out 3).trans rfl; have hcz38_4 : w36.cell? ⟨gb227, 4, none⟩ = some (.slice A1_4 l1_4.length c1_4) := (iD BK227.out 4).trans rfl; have hcz38_5 : w36.cell? ⟨gb227, 5, none⟩ = some (.int .u32 a1_5) := (iD BK227.out 5).trans rfl; have hcz38_6 : w36.cell? ⟨gb227, 6, none⟩ = some (.slice A1_6 l1_6.length c1_6) := (iD BK227.out 6).trans rfl; have hcz38_7 : w36.cell? ⟨gb227, 7, none⟩ = some (.int .i64 a1_7) := (iD BK227.out 7).trans rfl; have hcz38_8 : w36.cell? ⟨gb227, 8, none⟩ = some (.int .i64 a1_8) := (iD BK227.out 8).trans rfl; have hcz38_9 : w36.cell? ⟨gb227, 9, none⟩ = some (.slice A1_9 l1_9.length c1_9) := (iD BK227.out 9).trans rfl; have hfz38_0 := iC BK227.out 0; have hfz38_1 := iC BK227.out 1; have hfz38_2 := iC BK227.out 2; have hfz38_3 := iC BK227.out 3; have hfz38_4 := iC BK227.out 4; have hfz38_5 := iC BK227.out 5; have hfz38_6 := iC BK227.out 6; have hfz38_7 := iC BK227.out 7; have hfz38_8 := iC BK227.out 8; have hfz38_9 := iC BK227.out 9) | (go_at_call 106; (with_reducible refine (stratumref07_SameMap.calls kj2 a0_5 _ _ l0_6 a1_5 _ _ l1_6 true _ ?side1 ?side2 ?side3 ?side4 A30.out).mono ?_); (case side1 => repeat (first | exact (Kd.C_below HR0_6.out HB.out) | (with_reducible refine Kd.C_alloc ?_ _) | (with_reducible refine Kd.C_drewN ?_ _) | (with_reducible refine Kd.C_drew ?_))); (case side2 => exact HC0_6.out); (case side3 => repeat (first | exact (Kd.C_below HR1_6.out HB.out) | (with_reducible refine Kd.C_alloc ?_ _) | (with_reducible refine Kd.C_drewN ?_ _) | (with_reducible refine Kd.C_drew ?_))); (case side4 => exact HC1_6.out); rintro e w39 ⟨rfl, hb⟩; have n0_ := iE.mk (jG (g := gb226) (o := .cells #[.int .u8 a0_0, .int .u32 a0_1, .int .u32 a0_2, .slice A0_3 l0_3.length c0_3, .slice A0_4 l0_4.length c0_4, .int .u32 a0_5, .slice A0_6 l0_6.length c0_6, .int .i64 a0_7, .int .i64 a0_8, .slice A0_9 l0_9.length c0_9] 57 (0, 0)) (bk_ BK226.out) hb); have n1_ := iE.mk (jG (g := gb227) (o := .cells #[.int .u8 a1_0, .int .u32 a1_1, .int .u32 a1_2, .slice A1_3 l1_3.length c1_3, .slice A1_4 l1_4.length c1_4, .int .u32 a1_5, .slice A1_6 l1_6.length c1_6, .int .i64 a1_7, .int .i64 a1_8, .slice A1_9 l1_9.length c1_9] 57 (0, 0)) (bk_ BK227.out) hb); have n2_ := iE.mk (iL (by repeat (first | (with_reducible first | exact HB.out | apply iG | apply iF | apply iH | refine iI ?_ GE226.out | refine iI ?_ GE227.out) | exact HB.out)) hb); clear BK226; clear BK227; clear HB; have BK226 := n0_; have BK227 := n1_; have HB := n2_; clear n0_ n1_ n2_; (try clear hb); (try clear hb2); (try clear hk); (try clear hi); have hcz40_0 : w39.cell? ⟨gb226, 0, none⟩ = some (.int .u8 a0_0) := (iD BK226.out 0).trans rfl; have hcz40_1 : w39.cell? ⟨gb226, 1, none⟩ = some (.int .u32 a0_1) := (iD BK226.out 1).trans rfl; have hcz40_2 : w39.cell? ⟨gb226, 2, none⟩ = some (.int .u32 a0_2) := (iD BK226.out 2).trans rfl; have hcz40_3 : w39.cell? ⟨gb226, 3, none⟩ = some (.slice A0_3 l0_3.length c0_3) := (iD BK226.out 3).trans rfl; have hcz40_4 : w39.cell? ⟨gb226, 4, none⟩ = some (.slice A0_4 l0_4.length c0_4) := (iD BK226.out 4).trans rfl; have hcz40_5 : w39.cell? ⟨gb226, 5, none⟩ = some (.int .u32 a0_5) := (iD BK226.out 5).trans rfl; have hcz40_6 : w39.cell? ⟨gb226, 6, none⟩ = some (.slice A0_6 l0_6.length c0_6) := (iD BK226.out 6).trans rfl; have hcz40_7 : w39.cell? ⟨gb226, 7, none⟩ = some (.int .i64 a0_7) := (iD BK226.out 7).trans rfl; have hcz40_8 : w39.cell? ⟨gb226, 8, none⟩ = some (.int .i64 a0_8) := (iD BK226.out 8).trans rfl; have hcz40_9 : w39.cell? ⟨gb226, 9, none⟩ = some (.slice A0_9 l0_9.length c0_9) := (iD BK226.out 9).trans rfl; have hfz40_0 := iC BK226.out 0; have hfz40_1 := iC BK226.out 1; have hfz40_2 := iC BK226.out 2; have hfz40_3 := iC BK226.out 3; have hfz40_4 := iC BK226.out 4; have hfz40_5 := iC BK226.out 5; have hfz40_6 := iC BK226.out 6; have hfz40_7 := iC BK226.out 7; have hfz40_8 := iC BK226.out 8; have hfz40_9 := iC BK226.out 9; have hcz41_0 : w39.cell? ⟨gb227, 0, none⟩ = some (.int .u8 a1_0) := (iD BK227.out 0).trans rfl; have hcz41_1 : w39.cell? ⟨gb227, 1, none⟩ = some (.int .u32 a1_1) := (iD BK227.out 1).trans rfl; have hcz41_2 : w39.cell? ⟨gb227, 2, none⟩ = some (.int .u32 a1_2) := (iD BK227.out 2).trans rfl; have hcz41_3 : w39.cell? ⟨gb227, 3, none⟩ = some (.slice A1_3 l1_3.length c1_3) := (iD BK227.out 3).trans rfl; have hcz41_4 : w39.cell? ⟨gb227, 4, none⟩ = some (.slice A1_4 l1_4.length c1_4) := (iD BK227.out 4).trans rfl; have hcz41_5 : w39.cell? ⟨gb227, 5, none⟩ = some (.int .u32 a1_5) := (iD BK227.out 5).trans rfl; have hcz41_6 : w39.cell? ⟨gb227, 6, none⟩ = some (.slice A1_6 l1_6.length c1_6) := (iD BK227.out 6).trans rfl; have hcz41_7 : w39.cell? ⟨gb227, 7, none⟩ = some (.int .i64 a1_7) := (iD BK227.out 7).trans rfl; have hcz41_8 : w39.cell? ⟨gb227, 8, none⟩ = some (.int .i64 a1_8) := (iD BK227.out 8).trans rfl; have hcz41_9 : w39.cell? ⟨gb227, 9, none⟩ = some (.slice A1_9 l1_9.length c1_9) := (iD BK227.out 9).trans rfl; have hfz41_0 := iC BK227.out 0; have hfz41_1 := iC BK227.out 1; have hfz41_2 := iC BK227.out 2; have hfz41_3 := iC BK227.out 3; have hfz41_4 := iC BK227.out 4; have hfz41_5 := iC BK227.out 5; have hfz41_6 := iC BK227.out 6; have hfz41_7 := iC BK227.out 7; have hfz41_8 := iC BK227.out 8; have hfz41_9 := iC BK227.out 9) | (go_at_call 107; (with_reducible refine (stratumref07_SameEntries.calls _ _ l0_9 _ _ l1_9 t231 _ ?side1 ?side2 ?side3 ?side4 A32.out).mono ?_); (case side1 => repeat (first | exact (Kd.C_below HR0_9.out HB.out) | (with_reducible refine Kd.C_alloc ?_ _) | (with_reducible refine Kd.C_drewN ?_ _) | (with_reducible refine Kd.C_drew ?_))); (case side2 => exact HC0_9.out); (case side3 => repeat (first | exact (Kd.C_below HR1_9.out HB.out) | (with_reducible refine Kd.C_alloc ?_ _) | (with_reducible refine Kd.C_drewN ?_ _) | (with_reducible refine Kd.C_drew ?_))); (case side4 => exact HC1_9.out); rintro e w42 ⟨rfl, hb⟩; have n0_ := iE.mk (jG (g := gb226) (o := .cells #[.int .u8 a0_0, .int .u32 a0_1, .int .u32 a0_2, .slice A0_3 l0_3.length c0_3, .slice A0_4 l0_4.length c0_4, .int .u32 a0_5, .slice A0_6 l0_6.length c0_6, .int .i64 a0_7, .int .i64 a0_8, .slice A0_9 l0_9.length c0_9] 57 (0, 0)) (bk_ BK226.out) hb); have n1_ := iE.mk (jG (g := gb227) (o := .cells #[.int .u8 a1_0, .int .u32 a1_1, .int .u32 a1_2, .slice A1_3 l1_3.length c1_3, .slice A1_4 l1_4.length c1_4, .int .u32 a1_5, .slice A1_6 l1_6.length c1_6, .int .i64 a1_7, .int .i64 a1_8, .slice A1_9 l1_9.length c1_9] 57 (0, 0)) (bk_ BK227.out) hb); have n2_ := iE.mk (iL (by repeat (first | (with_reducible first | exact HB.out | apply iG | apply iF | apply iH | refine iI ?_ GE226.out | refine iI ?_ GE227.out) | exact HB.out)) hb); clear BK226; clear BK227; clear HB; have BK226 := n0_; have BK227 := n1_; have HB := n2_; clear n0_ n1_ n2_; (try clear hb); (try clear hb2); (try clear hk); (try clear hi)))
              go_ret
              exact ⟨by first | rfl | (simp [iQ, iR] <;> rfl) | (simp [*, iQ, iR] <;> rfl), by repeat (first | (with_reducible first | exact HB.out | apply iG | apply iF | apply iH | refine iI ?_ GE226.out | refine iI ?_ GE227.out) | exact HB.out)⟩
            · replace c31 := Bool.eq_false_iff.mpr c31
              subst c31
              have H1 : (some false) = some r := by rw [if_neg (show ¬ (false = true) by decide)] at H; exact H
              clear H
              have H := H1
              clear H1
              obtain rfl := Option.some.inj H
              have hnb43 := NB226_227.out
              have hnc43 := NB227_226.out
              have hcz44_0 : wc.cell? ⟨gb226, 0, none⟩ = some (.int .u8 a0_0) := (iD BK226.out 0).trans rfl
              have hcz44_1 : wc.cell? ⟨gb226, 1, none⟩ = some (.int .u32 a0_1) := (iD BK226.out 1).trans rfl
              have hcz44_2 : wc.cell? ⟨gb226, 2, none⟩ = some (.int .u32 a0_2) := (iD BK226.out 2).trans rfl
              have hcz44_3 : wc.cell? ⟨gb226, 3, none⟩ = some (.slice A0_3 l0_3.length c0_3) := (iD BK226.out 3).trans rfl
              have hcz44_4 : wc.cell? ⟨gb226, 4, none⟩ = some (.slice A0_4 l0_4.length c0_4) := (iD BK226.out 4).trans rfl
              have hcz44_5 : wc.cell? ⟨gb226, 5, none⟩ = some (.int .u32 a0_5) := (iD BK226.out 5).trans rfl
              have hcz44_6 : wc.cell? ⟨gb226, 6, none⟩ = some (.slice A0_6 l0_6.length c0_6) := (iD BK226.out 6).trans rfl
              have hcz44_7 : wc.cell? ⟨gb226, 7, none⟩ = some (.int .i64 a0_7) := (iD BK226.out 7).trans rfl
              have hcz44_8 : wc.cell? ⟨gb226, 8, none⟩ = some (.int .i64 a0_8) := (iD BK226.out 8).trans rfl
              have hcz44_9 : wc.cell? ⟨gb226, 9, none⟩ = some (.slice A0_9 l0_9.length c0_9) := (iD BK226.out 9).trans rfl
              have hfz44_0 := iC BK226.out 0
              have hfz44_1 := iC BK226.out 1
              have hfz44_2 := iC BK226.out 2
              have hfz44_3 := iC BK226.out 3
              have hfz44_4 := iC BK226.out 4
              have hfz44_5 := iC BK226.out 5
              have hfz44_6 := iC BK226.out 6
              have hfz44_7 := iC BK226.out 7
              have hfz44_8 := iC BK226.out 8
              have hfz44_9 := iC BK226.out 9
              have hcz45_0 : wc.cell? ⟨gb227, 0, none⟩ = some (.int .u8 a1_0) := (iD BK227.out 0).trans rfl
              have hcz45_1 : wc.cell? ⟨gb227, 1, none⟩ = some (.int .u32 a1_1) := (iD BK227.out 1).trans rfl
              have hcz45_2 : wc.cell? ⟨gb227, 2, none⟩ = some (.int .u32 a1_2) := (iD BK227.out 2).trans rfl
              have hcz45_3 : wc.cell? ⟨gb227, 3, none⟩ = some (.slice A1_3 l1_3.length c1_3) := (iD BK227.out 3).trans rfl
              have hcz45_4 : wc.cell? ⟨gb227, 4, none⟩ = some (.slice A1_4 l1_4.length c1_4) := (iD BK227.out 4).trans rfl
              have hcz45_5 : wc.cell? ⟨gb227, 5, none⟩ = some (.int .u32 a1_5) := (iD BK227.out 5).trans rfl
              have hcz45_6 : wc.cell? ⟨gb227, 6, none⟩ = some (.slice A1_6 l1_6.length c1_6) := (iD BK227.out 6).trans rfl
              have hcz45_7 : wc.cell? ⟨gb227, 7, none⟩ = some (.int .i64 a1_7) := (iD BK227.out 7).trans rfl
              have hcz45_8 : wc.cell? ⟨gb227, 8, none⟩ = some (.int .i64 a1_8) := (iD BK227.out 8).trans rfl
              have hcz45_9 : wc.cell? ⟨gb227, 9, none⟩ = some (.slice A1_9 l1_9.length c1_9) := (iD BK227.out 9).trans rfl
              have hfz45_0 := iC BK227.out 0
              have hfz45_1 := iC BK227.out 1
              have hfz45_2 := iC BK227.out 2
              have hfz45_3 := iC BK227.out 3
              have hfz45_4 := iC BK227.out 4
              have hfz45_5 := iC BK227.out 5
              have hfz45_6 := iC BK227.out 6
              have hfz45_7 := iC BK227.out 7
              have hfz45_8 := iC BK227.out 8
              have hfz45_9 := iC BK227.out 9
              go_wp2_with (first | (go_at_call 58; (with_reducible refine (stratumref07_SameInts.calls kj2 _ _ l0_3 _ _ l1_3 true _ ?side1 ?side2 ?side3 ?side4 A26.out).mono ?_); (case side1 => repeat (first | exact (Kd.C_below HR0_3.out HB.out) | (with_reducible refine Kd.C_alloc ?_ _) | (with_reducible refine Kd.C_drewN ?_ _) | (with_reducible refine Kd.C_drew ?_))); (case side2 => exact HC0_3.out); (case side3 => repeat (first | exact (Kd.C_below HR1_3.out HB.out) | (with_reducible refine Kd.C_alloc ?_ _) | (with_reducible refine Kd.C_drewN ?_ _) | (with_reducible refine Kd.C_drew ?_))); (case side4 => exact HC1_3.out); rintro e w' ⟨rfl, ⟨nd, rfl⟩⟩) | (go_at_call 105; (with_reducible refine (stratumref07_SameFacts.calls kj2 _ _ l0_4 _ _ l1_4 true _ ?side1 ?side2 ?side3 ?side4 A28.out).mono ?_); (case side1 => repeat (first | exact (Kd.C_below HR0_4.out (by repeat (first | (with_reducible first | exact HB.out | apply iG | apply iF | apply iH | refine iI ?_ GE226.out | refine iI ?_ GE227.out) | exact HB.out))) | (with_reducible refine Kd.C_alloc ?_ _) | (with_reducible refine Kd.C_drewN ?_ _) | (with_reducible refine Kd.C_drew ?_))); (case side2 => exact HC0_4.out); (case side3 => repeat (first | exact (Kd.C_below HR1_4.out (by repeat (first | (with_reducible first | exact HB.out | apply iG | apply iF | apply iH | refine iI ?_ GE226.out | refine iI ?_ GE227.out) | exact HB.out))) | (with_reducible refine Kd.C_alloc ?_ _) | (with_reducible refine Kd.C_drewN ?_ _) | (with_reducible refine Kd.C_drew ?_))); (case side4 => exact HC1_4.out); rintro e w46 ⟨rfl, hb⟩; have n0_ := iE.mk (jG (g := gb226) (o := .cells #[.int .u8 a0_0, .int .u32 a0_1, .int .u32 a0_2, .slice A0_3 l0_3.length c0_3, .slice A0_4 l0_4.length c0_4, .int .u32 a0_5, .slice A0_6 l0_6.length c0_6, .int .i64 a0_7, .int .i64 a0_8, .slice A0_9 l0_9.length c0_9] 57 (0, 0)) (bk_ BK226.out) hb); have n1_ := iE.mk (jG (g := gb227) (o := .cells #[.int .u8 a1_0, .int .u32 a1_1, .int .u32 a1_2, .slice A1_3 l1_3.length c1_3, .slice A1_4 l1_4.length c1_4, .int .u32 a1_5, .slice A1_6 l1_6.length c1_6, .int .i64 a1_7, .int .i64 a1_8, .slice A1_9 l1_9.length c1_9] 57 (0, 0)) (bk_ BK227.out) hb); have n2_ := iE.mk (iL (by repeat (first | (with_reducible first | exact HB.out | apply iG | apply iF | apply iH | refine iI ?_ GE226.out | refine iI ?_ GE227.out) | exact HB.out)) hb); clear BK226; clear BK227; clear HB; have BK226 := n0_; have BK227 := n1_; have HB := n2_; clear n0_ n1_ n2_; (try clear hb); (try clear hb2); (try clear hk); (try clear hi); have hcz47_0 : w46.cell? ⟨gb226, 0, none⟩ = some (.int .u8 a0_0) := (iD BK226.out 0).trans rfl; have hcz47_1 : w46.cell? ⟨gb226, 1, none⟩ = some (.int .u32 a0_1) := (iD BK226.out 1).trans rfl; have hcz47_2 : w46.cell? ⟨gb226, 2, none⟩ = some (.int .u32 a0_2) := (iD BK226.out 2).trans rfl; have hcz47_3 : w46.cell? ⟨gb226, 3, none⟩ = some (.slice A0_3 l0_3.length c0_3) := (iD BK226.out 3).trans rfl; have hcz47_4 : w46.cell? ⟨gb226, 4, none⟩ = some (.slice A0_4 l0_4.length c0_4) := (iD BK226.out 4).trans rfl; have hcz47_5 : w46.cell? ⟨gb226, 5, none⟩ = some (.int .u32 a0_5) := (iD BK226.out 5).trans rfl; have hcz47_6 : w46.cell? ⟨gb226, 6, none⟩ = some (.slice A0_6 l0_6.length c0_6) := (iD BK226.out 6).trans rfl; have hcz47_7 : w46.cell? ⟨gb226, 7, none⟩ = some (.int .i64 a0_7) := (iD BK226.out 7).trans rfl; have hcz47_8 : w46.cell? ⟨gb226, 8, none⟩ = some (.int .i64 a0_8) := (iD BK226.out 8).trans rfl; have hcz47_9 : w46.cell? ⟨gb226, 9, none⟩ = some (.slice A0_9 l0_9.length c0_9) := (iD BK226.out 9).trans rfl; have hfz47_0 := iC BK226.out 0; have hfz47_1 := iC BK226.out 1; have hfz47_2 := iC BK226.out 2; have hfz47_3 := iC BK226.out 3; have hfz47_4 := iC BK226.out 4; have hfz47_5 := iC BK226.out 5; have hfz47_6 := iC BK226.out 6; have hfz47_7 := iC BK226.out 7; have hfz47_8 := iC BK226.out 8; have hfz47_9 := iC BK226.out 9; have hcz48_0 : w46.cell? ⟨gb227, 0, none⟩ = some (.int .u8 a1_0) := (iD BK227.out 0).trans rfl; have hcz48_1 : w46.cell? ⟨gb227, 1, none⟩ = some (.int .u32 a1_1) := (iD BK227.out 1).trans rfl; have hcz48_2 : w46.cell? ⟨gb227, 2, none⟩ = some (.int .u32 a1_2) := (iD BK227.out 2).trans rfl; have hcz48_3 : w46.cell? ⟨gb227, 3, none⟩ = some (.slice A1_3 l1_3.length c1_3) := (iD BK227.out 3).trans rfl; have hcz48_4 : w46.cell? ⟨gb227, 4, none⟩ = some (.slice A1_4 l1_4.length c1_4) := (iD BK227.out 4).trans rfl; have hcz48_5 : w46.cell? ⟨gb227, 5, none⟩ = some (.int .u32 a1_5) := (iD BK227.out 5).trans rfl; have hcz48_6 : w46.cell? ⟨gb227, 6, none⟩ = some (.slice A1_6 l1_6.length c1_6) := (iD BK227.out 6).trans rfl; have hcz48_7 : w46.cell? ⟨gb227, 7, none⟩ = some (.int .i64 a1_7) := (iD BK227.out 7).trans rfl; have hcz48_8 : w46.cell? ⟨gb227, 8, none⟩ = some (.int .i64 a1_8) := (iD BK227.out 8).trans rfl; have hcz48_9 : w46.cell? ⟨gb227, 9, none⟩ = some (.slice A1_9 l1_9.length c1_9) := (iD BK227.out 9).trans rfl; have hfz48_0 := iC BK227.out 0; have hfz48_1 := iC BK227.out 1; have hfz48_2 := iC BK227.out 2; have hfz48_3 := iC BK227.out 3; have hfz48_4 := iC BK227.out 4; have hfz48_5 := iC BK227.out 5; have hfz48_6 := iC BK227.out 6; have hfz48_7 := iC BK227.out 7; have hfz48_8 := iC BK227.out 8; have hfz48_9 := iC BK227.out 9) | (go_at_call 106; (with_reducible refine (stratumref07_SameMap.calls kj2 a0_5 _ _ l0_6 a1_5 _ _ l1_6 false _ ?side1 ?side2 ?side3 ?side4 A30.out).mono ?_); (case side1 => repeat (first | exact (Kd.C_below HR0_6.out HB.out) | (with_reducible refine Kd.C_alloc ?_ _) | (with_reducible refine Kd.C_drewN ?_ _) | (with_reducible refine Kd.C_drew ?_))); (case side2 => exact HC0_6.out); (case side3 => repeat (first | exact (Kd.C_below HR1_6.out HB.out) | (with_reducible refine Kd.C_alloc ?_ _) | (with_reducible refine Kd.C_drewN ?_ _) | (with_reducible refine Kd.C_drew ?_))); (case side4 => exact HC1_6.out); rintro e w49 ⟨rfl, hb⟩; have n0_ := iE.mk (jG (g := gb226) (o := .cells #[.int .u8 a0_0, .int .u32 a0_1, .int .u32 a0_2, .slice A0_3 l0_3.length c0_3, .slice A0_4 l0_4.length c0_4, .int .u32 a0_5, .slice A0_6 l0_6.length c0_6, .int .i64 a0_7, .int .i64 a0_8, .slice A0_9 l0_9.length c0_9] 57 (0, 0)) (bk_ BK226.out) hb); have n1_ := iE.mk (jG (g := gb227) (o := .cells #[.int .u8 a1_0, .int .u32 a1_1, .int .u32 a1_2, .slice A1_3 l1_3.length c1_3, .slice A1_4 l1_4.length c1_4, .int .u32 a1_5, .slice A1_6 l1_6.length c1_6, .int .i64 a1_7, .int .i64 a1_8, .slice A1_9 l1_9.length c1_9] 57 (0, 0)) (bk_ BK227.out) hb); have n2_ := iE.mk (iL (by repeat (first | (with_reducible first | exact HB.out | apply iG | apply iF | apply iH | refine iI ?_ GE226.out | refine iI ?_ GE227.out) | exact HB.out)) hb); clear BK226; clear BK227; clear HB; have BK226 := n0_; have BK227 := n1_; have HB := n2_; clear n0_ n1_ n2_; (try clear hb); (try clear hb2); (try clear hk); (try clear hi)))
              go_ret
              exact ⟨by first | rfl | (simp [iQ, iR] <;> rfl) | (simp [*, iQ, iR] <;> rfl), by repeat (first | (with_reducible first | exact HB.out | apply iG | apply iF | apply iH | refine iI ?_ GE226.out | refine iI ?_ GE227.out) | exact HB.out)⟩
          · replace c29 := Bool.eq_false_iff.mpr c29
            subst c29
            have H1 : (some false) = some r := by rw [if_neg (show ¬ (false = true) by decide)] at H; exact H
            clear H
            have H := H1
            clear H1
            obtain rfl := Option.some.inj H
            have hnb50 := NB226_227.out
            have hnc50 := NB227_226.out
            have hcz51_0 : wc.cell? ⟨gb226, 0, none⟩ = some (.int .u8 a0_0) := (iD BK226.out 0).trans rfl
            have hcz51_1 : wc.cell? ⟨gb226, 1, none⟩ = some (.int .u32 a0_1) := (iD BK226.out 1).trans rfl
            have hcz51_2 : wc.cell? ⟨gb226, 2, none⟩ = some (.int .u32 a0_2) := (iD BK226.out 2).trans rfl
            have hcz51_3 : wc.cell? ⟨gb226, 3, none⟩ = some (.slice A0_3 l0_3.length c0_3) := (iD BK226.out 3).trans rfl
            have hcz51_4 : wc.cell? ⟨gb226, 4, none⟩ = some (.slice A0_4 l0_4.length c0_4) := (iD BK226.out 4).trans rfl
            have hcz51_5 : wc.cell? ⟨gb226, 5, none⟩ = some (.int .u32 a0_5) := (iD BK226.out 5).trans rfl
            have hcz51_6 : wc.cell? ⟨gb226, 6, none⟩ = some (.slice A0_6 l0_6.length c0_6) := (iD BK226.out 6).trans rfl
            have hcz51_7 : wc.cell? ⟨gb226, 7, none⟩ = some (.int .i64 a0_7) := (iD BK226.out 7).trans rfl
            have hcz51_8 : wc.cell? ⟨gb226, 8, none⟩ = some (.int .i64 a0_8) := (iD BK226.out 8).trans rfl
            have hcz51_9 : wc.cell? ⟨gb226, 9, none⟩ = some (.slice A0_9 l0_9.length c0_9) := (iD BK226.out 9).trans rfl
            have hfz51_0 := iC BK226.out 0
            have hfz51_1 := iC BK226.out 1
            have hfz51_2 := iC BK226.out 2
            have hfz51_3 := iC BK226.out 3
            have hfz51_4 := iC BK226.out 4
            have hfz51_5 := iC BK226.out 5
            have hfz51_6 := iC BK226.out 6
            have hfz51_7 := iC BK226.out 7
            have hfz51_8 := iC BK226.out 8
            have hfz51_9 := iC BK226.out 9
            have hcz52_0 : wc.cell? ⟨gb227, 0, none⟩ = some (.int .u8 a1_0) := (iD BK227.out 0).trans rfl
            have hcz52_1 : wc.cell? ⟨gb227, 1, none⟩ = some (.int .u32 a1_1) := (iD BK227.out 1).trans rfl
            have hcz52_2 : wc.cell? ⟨gb227, 2, none⟩ = some (.int .u32 a1_2) := (iD BK227.out 2).trans rfl
            have hcz52_3 : wc.cell? ⟨gb227, 3, none⟩ = some (.slice A1_3 l1_3.length c1_3) := (iD BK227.out 3).trans rfl
            have hcz52_4 : wc.cell? ⟨gb227, 4, none⟩ = some (.slice A1_4 l1_4.length c1_4) := (iD BK227.out 4).trans rfl
            have hcz52_5 : wc.cell? ⟨gb227, 5, none⟩ = some (.int .u32 a1_5) := (iD BK227.out 5).trans rfl
            have hcz52_6 : wc.cell? ⟨gb227, 6, none⟩ = some (.slice A1_6 l1_6.length c1_6) := (iD BK227.out 6).trans rfl
            have hcz52_7 : wc.cell? ⟨gb227, 7, none⟩ = some (.int .i64 a1_7) := (iD BK227.out 7).trans rfl
            have hcz52_8 : wc.cell? ⟨gb227, 8, none⟩ = some (.int .i64 a1_8) := (iD BK227.out 8).trans rfl
            have hcz52_9 : wc.cell? ⟨gb227, 9, none⟩ = some (.slice A1_9 l1_9.length c1_9) := (iD BK227.out 9).trans rfl
            have hfz52_0 := iC BK227.out 0
            have hfz52_1 := iC BK227.out 1
            have hfz52_2 := iC BK227.out 2
            have hfz52_3 := iC BK227.out 3
            have hfz52_4 := iC BK227.out 4
            have hfz52_5 := iC BK227.out 5
            have hfz52_6 := iC BK227.out 6
            have hfz52_7 := iC BK227.out 7
            have hfz52_8 := iC BK227.out 8
            have hfz52_9 := iC BK227.out 9
            go_wp2_with (first | (go_at_call 58; (with_reducible refine (stratumref07_SameInts.calls kj2 _ _ l0_3 _ _ l1_3 true _ ?side1 ?side2 ?side3 ?side4 A26.out).mono ?_); (case side1 => repeat (first | exact (Kd.C_below HR0_3.out HB.out) | (with_reducible refine Kd.C_alloc ?_ _) | (with_reducible refine Kd.C_drewN ?_ _) | (with_reducible refine Kd.C_drew ?_))); (case side2 => exact HC0_3.out); (case side3 => repeat (first | exact (Kd.C_below HR1_3.out HB.out) | (with_reducible refine Kd.C_alloc ?_ _) | (with_reducible refine Kd.C_drewN ?_ _) | (with_reducible refine Kd.C_drew ?_))); (case side4 => exact HC1_3.out); rintro e w' ⟨rfl, ⟨nd, rfl⟩⟩) | (go_at_call 105; (with_reducible refine (stratumref07_SameFacts.calls kj2 _ _ l0_4 _ _ l1_4 false _ ?side1 ?side2 ?side3 ?side4 A28.out).mono ?_); (case side1 => repeat (first | exact (Kd.C_below HR0_4.out (by repeat (first | (with_reducible first | exact HB.out | apply iG | apply iF | apply iH | refine iI ?_ GE226.out | refine iI ?_ GE227.out) | exact HB.out))) | (with_reducible refine Kd.C_alloc ?_ _) | (with_reducible refine Kd.C_drewN ?_ _) | (with_reducible refine Kd.C_drew ?_))); (case side2 => exact HC0_4.out); (case side3 => repeat (first | exact (Kd.C_below HR1_4.out (by repeat (first | (with_reducible first | exact HB.out | apply iG | apply iF | apply iH | refine iI ?_ GE226.out | refine iI ?_ GE227.out) | exact HB.out))) | (with_reducible refine Kd.C_alloc ?_ _) | (with_reducible refine Kd.C_drewN ?_ _) | (with_reducible refine Kd.C_drew ?_))); (case side4 => exact HC1_4.out); rintro e w53 ⟨rfl, hb⟩; have n0_ := iE.mk (jG (g := gb226) (o := .cells #[.int .u8 a0_0, .int .u32 a0_1, .int .u32 a0_2, .slice A0_3 l0_3.length c0_3, .slice A0_4 l0_4.length c0_4, .int .u32 a0_5, .slice A0_6 l0_6.length c0_6, .int .i64 a0_7, .int .i64 a0_8, .slice A0_9 l0_9.length c0_9] 57 (0, 0)) (bk_ BK226.out) hb); have n1_ := iE.mk (jG (g := gb227) (o := .cells #[.int .u8 a1_0, .int .u32 a1_1, .int .u32 a1_2, .slice A1_3 l1_3.length c1_3, .slice A1_4 l1_4.length c1_4, .int .u32 a1_5, .slice A1_6 l1_6.length c1_6, .int .i64 a1_7, .int .i64 a1_8, .slice A1_9 l1_9.length c1_9] 57 (0, 0)) (bk_ BK227.out) hb); have n2_ := iE.mk (iL (by repeat (first | (with_reducible first | exact HB.out | apply iG | apply iF | apply iH | refine iI ?_ GE226.out | refine iI ?_ GE227.out) | exact HB.out)) hb); clear BK226; clear BK227; clear HB; have BK226 := n0_; have BK227 := n1_; have HB := n2_; clear n0_ n1_ n2_; (try clear hb); (try clear hb2); (try clear hk); (try clear hi)))
            go_ret
            exact ⟨by first | rfl | (simp [iQ, iR] <;> rfl) | (simp [*, iQ, iR] <;> rfl), by repeat (first | (with_reducible first | exact HB.out | apply iG | apply iF | apply iH | refine iI ?_ GE226.out | refine iI ?_ GE227.out) | exact HB.out)⟩
        · replace c27 := Bool.eq_false_iff.mpr c27
          subst c27
          have H1 : (some false) = some r := by rw [if_neg (show ¬ (false = true) by decide)] at H; exact H
          clear H
          have H := H1
          clear H1
          obtain rfl := Option.some.inj H
          have hnb54 := NB226_227.out
          have hnc54 := NB227_226.out
          have hcz55_0 : wc.cell? ⟨gb226, 0, none⟩ = some (.int .u8 a0_0) := (iD BK226.out 0).trans rfl
          have hcz55_1 : wc.cell? ⟨gb226, 1, none⟩ = some (.int .u32 a0_1) := (iD BK226.out 1).trans rfl
          have hcz55_2 : wc.cell? ⟨gb226, 2, none⟩ = some (.int .u32 a0_2) := (iD BK226.out 2).trans rfl
          have hcz55_3 : wc.cell? ⟨gb226, 3, none⟩ = some (.slice A0_3 l0_3.length c0_3) := (iD BK226.out 3).trans rfl
          have hcz55_4 : wc.cell? ⟨gb226, 4, none⟩ = some (.slice A0_4 l0_4.length c0_4) := (iD BK226.out 4).trans rfl
          have hcz55_5 : wc.cell? ⟨gb226, 5, none⟩ = some (.int .u32 a0_5) := (iD BK226.out 5).trans rfl
          have hcz55_6 : wc.cell? ⟨gb226, 6, none⟩ = some (.slice A0_6 l0_6.length c0_6) := (iD BK226.out 6).trans rfl
          have hcz55_7 : wc.cell? ⟨gb226, 7, none⟩ = some (.int .i64 a0_7) := (iD BK226.out 7).trans rfl
          have hcz55_8 : wc.cell? ⟨gb226, 8, none⟩ = some (.int .i64 a0_8) := (iD BK226.out 8).trans rfl
          have hcz55_9 : wc.cell? ⟨gb226, 9, none⟩ = some (.slice A0_9 l0_9.length c0_9) := (iD BK226.out 9).trans rfl
          have hfz55_0 := iC BK226.out 0
          have hfz55_1 := iC BK226.out 1
          have hfz55_2 := iC BK226.out 2
          have hfz55_3 := iC BK226.out 3
          have hfz55_4 := iC BK226.out 4
          have hfz55_5 := iC BK226.out 5
          have hfz55_6 := iC BK226.out 6
          have hfz55_7 := iC BK226.out 7
          have hfz55_8 := iC BK226.out 8
          have hfz55_9 := iC BK226.out 9
          have hcz56_0 : wc.cell? ⟨gb227, 0, none⟩ = some (.int .u8 a1_0) := (iD BK227.out 0).trans rfl
          have hcz56_1 : wc.cell? ⟨gb227, 1, none⟩ = some (.int .u32 a1_1) := (iD BK227.out 1).trans rfl
          have hcz56_2 : wc.cell? ⟨gb227, 2, none⟩ = some (.int .u32 a1_2) := (iD BK227.out 2).trans rfl
          have hcz56_3 : wc.cell? ⟨gb227, 3, none⟩ = some (.slice A1_3 l1_3.length c1_3) := (iD BK227.out 3).trans rfl
          have hcz56_4 : wc.cell? ⟨gb227, 4, none⟩ = some (.slice A1_4 l1_4.length c1_4) := (iD BK227.out 4).trans rfl
          have hcz56_5 : wc.cell? ⟨gb227, 5, none⟩ = some (.int .u32 a1_5) := (iD BK227.out 5).trans rfl
          have hcz56_6 : wc.cell? ⟨gb227, 6, none⟩ = some (.slice A1_6 l1_6.length c1_6) := (iD BK227.out 6).trans rfl
          have hcz56_7 : wc.cell? ⟨gb227, 7, none⟩ = some (.int .i64 a1_7) := (iD BK227.out 7).trans rfl
          have hcz56_8 : wc.cell? ⟨gb227, 8, none⟩ = some (.int .i64 a1_8) := (iD BK227.out 8).trans rfl
          have hcz56_9 : wc.cell? ⟨gb227, 9, none⟩ = some (.slice A1_9 l1_9.length c1_9) := (iD BK227.out 9).trans rfl
          have hfz56_0 := iC BK227.out 0
          have hfz56_1 := iC BK227.out 1
          have hfz56_2 := iC BK227.out 2
          have hfz56_3 := iC BK227.out 3
          have hfz56_4 := iC BK227.out 4
          have hfz56_5 := iC BK227.out 5
          have hfz56_6 := iC BK227.out 6
          have hfz56_7 := iC BK227.out 7
          have hfz56_8 := iC BK227.out 8
          have hfz56_9 := iC BK227.out 9
          go_wp2_with (first | (go_at_call 58; (with_reducible refine (stratumref07_SameInts.calls kj2 _ _ l0_3 _ _ l1_3 false _ ?side1 ?side2 ?side3 ?side4 A26.out).mono ?_); (case side1 => repeat (first | exact (Kd.C_below HR0_3.out HB.out) | (with_reducible refine Kd.C_alloc ?_ _) | (with_reducible refine Kd.C_drewN ?_ _) | (with_reducible refine Kd.C_drew ?_))); (case side2 => exact HC0_3.out); (case side3 => repeat (first | exact (Kd.C_below HR1_3.out HB.out) | (with_reducible refine Kd.C_alloc ?_ _) | (with_reducible refine Kd.C_drewN ?_ _) | (with_reducible refine Kd.C_drew ?_))); (case side4 => exact HC1_3.out); rintro e w' ⟨rfl, ⟨nd, rfl⟩⟩))
          go_ret
          exact ⟨by first | rfl | (simp [iQ, iR] <;> rfl) | (simp [*, iQ, iR] <;> rfl), by repeat (first | (with_reducible first | exact HB.out | apply iG | apply iF | apply iH | refine iI ?_ GE226.out | refine iI ?_ GE227.out) | exact HB.out)⟩
      · replace c25 := Bool.eq_false_iff.mpr c25
        subst c25
        have H1 : (some false) = some r := by rw [if_neg (show ¬ (false = true) by decide)] at H; exact H
        clear H
        have H := H1
        clear H1
        obtain rfl := Option.some.inj H
        go_wp2
        go_ret
        exact ⟨by first | rfl | (simp [iQ, iR] <;> rfl) | (simp [*, iQ, iR] <;> rfl), by repeat (first | (with_reducible first | exact HB.out | apply iG | apply iF | apply iH | refine iI ?_ GE226.out | refine iI ?_ GE227.out) | exact HB.out)⟩
end Go.Proofs.YtbbhjceelghadaaDoor.K
end

section
namespace Go.Proofs.YtbbhjceelghadaaDoor.K
open Go Go.RowKit Go.Proofs.YtbbhjceelghadaaDoorW.PrintWords Go.Proofs.YtbbhjceelghadaaDoorW.PrintLast Go.Proofs.YtbbhjceelghadaaDoorW.PrintMore Go.Proofs.YtbbhjceelghadaaDoor.My
theorem UZ (l m : List Int) (h : l.length = m.length) (k : Nat) (hk : ∀ i : Nat, i < k → l.getD i 0 = m.getD i 0) (hl : l.length ≤ k) : l = m := by
  apply List.ext_getElem h
  intro i h1 h2
  have := hk i (by omega)
  rw [List.getD_eq_getElem?_getD, List.getD_eq_getElem?_getD, List.getElem?_eq_getElem h1, List.getElem?_eq_getElem h2] at this
  exact this
theorem IY (l m : List Int) (h : l.length = m.length) (hn : l.length ≤ 9223372036854775807) (d : Nat) : ∀ i : Int, 0 ≤ i → i ≤ l.length → (l.length : Int) - i = d → (∀ j : Nat, j < i.toNat → l.getD j 0 = m.getD j 0) → ∃ b, Ev (fun k => stratumref07_SameInts.l0 k l m i) b ∧ (b = true ↔ l = m) := by
  induction d with
  | zero =>
    intro i h0 h1 hd hp
    exact ⟨true, Ev.step (f := fun _ => some true) (fun k => by simp only [stratumref07_SameInts.l0]; rw [if_neg (by omega)]) (Ev.now _), by
      simp only [true_iff]
      exact UZ l m h l.length (fun j hj => hp j (by omega)) (Nat.le_refl _)⟩
  | succ d ih =>
    intro i h0 h1 hd hp
    have hlt : i < (l.length : Int) := by omega
    by_cases c : rd l i = rd m i
    · obtain ⟨b, h2, h3⟩ := ih (i + 1) (by omega) (by omega) (by omega) (fun j hj => by
        rcases Nat.lt_or_ge j i.toNat with h | h
        · exact hp j h
        · obtain rfl : j = i.toNat := by omega
          exact c)
      exact ⟨b, Ev.step (fun k => by simp only [stratumref07_SameInts.l0]; rw [if_pos hlt, if_pos h0, if_pos (by omega), if_pos c, pV h0 hlt hn]) h2, h3⟩
    · refine ⟨false, Ev.step (f := fun _ => some false) (fun k => by simp only [stratumref07_SameInts.l0]; rw [if_pos hlt, if_pos h0, if_pos (by omega), if_neg c]) (Ev.now _), ?_⟩
      simp only [Bool.false_eq_true, false_iff]
      intro e
      rw [e] at c
      exact c rfl
theorem L6 (l m : List Int) (hn : l.length ≤ 9223372036854775807) : ∃ b, Ev (fun k => stratumref07_SameInts.f k l m) b ∧ (b = true ↔ l = m) := by
  by_cases h : (l.length : Int) = (m.length : Int)
  · obtain ⟨b, h1, h2⟩ := IY l m (by omega) hn l.length 0 (by omega) (by omega) (by omega) (fun j hj => by simp at hj)
    exact ⟨b, Ev.congr (fun k => by unfold stratumref07_SameInts.f; rw [if_pos h]) h1, h2⟩
  · refine ⟨false, Ev.congr (f := fun _ => some false) (fun k => by unfold stratumref07_SameInts.f; rw [if_neg h]) (Ev.now _), ?_⟩
    simp only [Bool.false_eq_true, false_iff]
    intro e
    exact h (by rw [e])
theorem RS (l m : List jW) (h : l.length = m.length) (hk : ∀ i : Nat, i < l.length → (l.getD i z132).f0 = (m.getD i z132).f0 ∧ (l.getD i z132).f1 = (m.getD i z132).f1) : l = m := by
  apply List.ext_getElem h
  intro i h1 h2
  have := hk i h1
  rw [List.getD_eq_getElem?_getD, List.getD_eq_getElem?_getD, List.getElem?_eq_getElem h1, List.getElem?_eq_getElem h2] at this
  simp only [Option.getD_some] at this
  cases hx : l[i]
  cases hy : m[i]
  rw [hx, hy] at this
  simp only at this
  rw [this.1, this.2]
theorem JO (a b : Int) (l m : List jW) (h : l.length = m.length) (hn : l.length ≤ 9223372036854775807) (d : Nat) : ∀ i : Int, 0 ≤ i → i ≤ l.length → (l.length : Int) - i = d → (∀ j : Nat, j < i.toNat → (l.getD j z132).f0 = (m.getD j z132).f0 ∧ (l.getD j z132).f1 = (m.getD j z132).f1) → ∃ t, Ev (fun k => stratumref07_SameMap.l0 k i a l b m) t ∧ (t = true ↔ l = m) := by
  induction d with
  | zero =>
    intro i h0 h1 hd hp
    exact ⟨true, Ev.step (f := fun _ => some true) (fun k => by simp only [stratumref07_SameMap.l0]; rw [if_neg (by omega)]) (Ev.now _), by
      simp only [true_iff]
      exact RS l m h (fun j hj => hp j (by omega))⟩
  | succ d ih =>
    intro i h0 h1 hd hp
    have hlt : i < (l.length : Int) := by omega
    by_cases c : (jO l i).f0 = (jO m i).f0 ∧ (jO l i).f1 = (jO m i).f1
    · obtain ⟨b, h2, h3⟩ := ih (i + 1) (by omega) (by omega) (by omega) (fun j hj => by
        rcases Nat.lt_or_ge j i.toNat with h | h
        · exact hp j h
        · obtain rfl : j = i.toNat := by omega
          exact c)
      exact ⟨b, Ev.step (fun k => by simp only [stratumref07_SameMap.l0]; rw [if_pos hlt, if_pos h0, if_pos (by omega), if_neg (by simp [c.1, c.2]), pV h0 hlt hn]) h2, h3⟩
    · refine ⟨false, Ev.step (f := fun _ => some false) (fun k => by simp only [stratumref07_SameMap.l0]; rw [if_pos hlt, if_pos h0, if_pos (by omega), if_pos (by simp; exact Classical.not_and_iff_not_or_not.mp c)]) (Ev.now _), ?_⟩
      simp only [Bool.false_eq_true, false_iff]
      intro e
      rw [e] at c
      exact c ⟨rfl, rfl⟩
theorem NF (a b : Int) (l m : List jW) (hn : l.length ≤ 9223372036854775807) : ∃ t, Ev (fun k => stratumref07_SameMap.f k a l b m) t ∧ (t = true ↔ (a = b ∧ l = m)) := by
  have hno : ∀ (x : Bool), x = true → Ev (fun k => stratumref07_SameMap.j0 k x a l b m) false := fun x hx => Ev.step (f := fun _ => some false) (fun k => by simp only [stratumref07_SameMap.j0]; rw [if_pos hx]) (Ev.now _)
  by_cases hab : a = b
  · by_cases h : (l.length : Int) = (m.length : Int)
    · obtain ⟨t, h1, h2⟩ := JO a b l m (by omega) hn l.length 0 (by omega) (by omega) (by omega) (fun j hj => by simp at hj)
      refine ⟨t, Ev.congr (fun k => by unfold stratumref07_SameMap.f; rw [if_pos hab]) (Ev.step (fun k => by simp only [stratumref07_SameMap.j0]; rw [if_neg (by simp [h])]) h1), ?_⟩
      rw [h2]; exact ⟨fun e => ⟨hab, e⟩, fun e => e.2⟩
    · refine ⟨false, Ev.congr (fun k => by unfold stratumref07_SameMap.f; rw [if_pos hab]) (hno _ (by simpa [bne] using h)), ?_⟩
      simp only [Bool.false_eq_true, false_iff]
      intro e
      exact h (by rw [e.2])
  · refine ⟨false, Ev.congr (fun k => by unfold stratumref07_SameMap.f; rw [if_neg hab]) (hno true rfl), ?_⟩
    simp only [Bool.false_eq_true, false_iff]
    exact fun e => hab e.1
def U9 (x y : SRec) : Prop := x.f0 = y.f0 ∧ x.f1 = y.f1 ∧ x.f2 = y.f2 ∧ x.f6 = y.f6 ∧ x.f7 = y.f7 ∧ x.f3 = y.f3 ∧ kH x.f4 = kH y.f4 ∧ (x.f5.f0 = y.f5.f0 ∧ x.f5.f1 = y.f5.f1) ∧ jR x.f8 = jR y.f8
structure SLen (x : SRec) : Prop where
  n3 : x.f3.length ≤ 9223372036854775807
  n4 : (kH x.f4).length ≤ 140737488355328
  n6 : x.f5.f1.length ≤ 9223372036854775807
  n9 : (jR x.f8).length ≤ 140737488355328
theorem IV (l m : List jK) (hl : (kH l).length ≤ 140737488355328) (hm : (kH m).length ≤ 140737488355328) : ∃ t, Ev (fun k => stratumref07_SameFacts.f k l m) t ∧ (t = true ↔ kH l = kH m) := by
  have e1 := vV l [] (by simpa using hl)
  have e2 := vV m [] (by simpa using hm)
  rw [List.nil_append] at e1 e2
  refine ⟨decide (kH l = kH m), ?_, by simp⟩
  unfold stratumref07_SameFacts.f
  refine Ev.bind e1 (Ev.bind e2 ?_)
  rw [qL]
  exact Ev.now _
theorem xW (l m : List jF) (hl : (jR l).length ≤ 140737488355328) (hm : (jR m).length ≤ 140737488355328) : stratumref07_SameEntries.f l m = some (decide (jR l = jR m)) := by
  unfold stratumref07_SameEntries.f stratumref07_Entries.f
  rw [if_pos ⟨rfl, hl⟩, if_pos ⟨rfl, hm⟩]
  simp only [Option.bind_some]
  rw [qL]
theorem UK (x y : SRec) (hx : SLen x) (hy : SLen y) : ∃ t, Ev (fun k => stratumref07_Same.f k x.f0 x.f1 x.f2 x.f3 x.f4 x.f5.f0 x.f5.f1 x.f6 x.f7 x.f8 y.f0 y.f1 y.f2 y.f3 y.f4 y.f5.f0 y.f5.f1 y.f6 y.f7 y.f8) t ∧ (t = true ↔ U9 x y) := by
  have hno : ∀ (b : Bool), b = false → Ev (fun k => stratumref07_Same.j0 k b x.f0 x.f1 x.f2 x.f3 x.f4 x.f5.f0 x.f5.f1 x.f6 x.f7 x.f8 y.f0 y.f1 y.f2 y.f3 y.f4 y.f5.f0 y.f5.f1 y.f6 y.f7 y.f8) false := fun b hb => Ev.step (f := fun _ => some false) (fun k => by simp only [stratumref07_Same.j0]; rw [if_neg (by rw [hb]; decide)]) (Ev.now _)
  have no : ∀ {p : Prop}, ¬ p → (false = true ↔ p) := fun h => ⟨(fun e => by cases e), fun e => absurd e h⟩
  by_cases h0 : x.f0 = y.f0
  case neg => exact ⟨false, Ev.congr (fun k => by unfold stratumref07_Same.f; rw [if_neg h0]) (hno false rfl), no (fun e => h0 e.1)⟩
  by_cases h1 : x.f1 = y.f1
  case neg => exact ⟨false, Ev.congr (fun k => by unfold stratumref07_Same.f; rw [if_pos h0, if_neg h1]) (hno false rfl), no (fun e => h1 e.2.1)⟩
  by_cases h2 : x.f2 = y.f2
  case neg => exact ⟨false, Ev.congr (fun k => by unfold stratumref07_Same.f; rw [if_pos h0, if_pos h1, if_neg h2]) (hno false rfl), no (fun e => h2 e.2.2.1)⟩
  by_cases h6 : x.f6 = y.f6
  case neg => exact ⟨false, Ev.congr (fun k => by unfold stratumref07_Same.f; rw [if_pos h0, if_pos h1, if_pos h2, if_neg h6]) (hno false rfl), no (fun e => h6 e.2.2.2.1)⟩
  by_cases h7 : x.f7 = y.f7
  case neg => exact ⟨false, Ev.congr (fun k => by unfold stratumref07_Same.f; rw [if_pos h0, if_pos h1, if_pos h2, if_pos h6]) (hno _ (by simpa using h7)), no (fun e => h7 e.2.2.2.2.1)⟩
  obtain ⟨t3, a3, b3⟩ := L6 x.f3 y.f3 hx.n3
  obtain ⟨t4, a4, b4⟩ := IV x.f4 y.f4 hx.n4 hy.n4
  obtain ⟨t5, a5, b5⟩ := NF x.f5.f0 y.f5.f0 x.f5.f1 y.f5.f1 hx.n6
  have a9 := xW x.f8 y.f8 hx.n9 hy.n9
  refine ⟨t3 && (t4 && (t5 && decide (jR x.f8 = jR y.f8))), Ev.congr (fun k => by unfold stratumref07_Same.f; rw [if_pos h0, if_pos h1, if_pos h2, if_pos h6]) (Ev.step (fun k => by simp only [stratumref07_Same.j0]; rw [if_pos (by simpa using h7)]) (Ev.bind a3 (OM _ (Ev.bind a4 (OM _ (Ev.bind a5 (OM _ ?_))))))), ?_⟩
  · exact Ev.congr (fun k => by rw [a9]; rfl) (Ev.now _)
  · simp only [Bool.and_eq_true, decide_eq_true_eq, b3, b4, b5]
    exact ⟨fun e => ⟨h0, h1, h2, h6, h7, e.1, e.2.1, e.2.2.1, e.2.2.2⟩, fun e => ⟨e.2.2.2.2.2.1, e.2.2.2.2.2.2.1, e.2.2.2.2.2.2.2.1, e.2.2.2.2.2.2.2.2⟩⟩
end Go.Proofs.YtbbhjceelghadaaDoor.K
end

section
namespace Go.Proofs.YtbbhjceelghadaaDoor.K
open Go Go.RowKit Go.Proofs.YtbbhjceelghadaaDoorW.PrintWords Go.Proofs.YtbbhjceelghadaaDoorW.PrintLast Go.Proofs.YtbbhjceelghadaaDoorW.PrintMore Go.Proofs.YtbbhjceelghadaaDoor.My
/-- What a sound record is, kind by kind. -/
theorem LH (r : SRec) (h : jT r = true) :
    (r.f0 = 1 ∧ lN (-1) r.f3 = true ∧ mG r.f4 = true ∧ r.f2 = 0 ∧ r.f5.f0 = 0 ∧ r.f5.f1 = [] ∧ r.f6 = 0 ∧ r.f7 = 0 ∧ r.f8 = []) ∨
    (r.f0 = 2 ∧ lN (-1) r.f3 = true ∧ r.f4 = [] ∧ r.f5.f0 = 0 ∧ r.f5.f1 = [] ∧ r.f6 = 0 ∧ r.f7 = 0 ∧ r.f8 = []) ∨
    ((r.f0 = 3 ∨ r.f0 = 4 ∨ r.f0 = 5) ∧ r.f2 = 0 ∧ r.f3 = [] ∧ r.f4 = [] ∧ r.f5.f0 = 0 ∧ r.f5.f1 = [] ∧ r.f6 = 0 ∧ r.f7 = 0 ∧ r.f8 = []) ∨
    (r.f0 = 6 ∧ r.f1 = 0 ∧ r.f5.f1.length ≤ 40 ∧ (∀ s ∈ r.f5.f1, nX s = true) ∧ r.f2 = 0 ∧ r.f3 = [] ∧ r.f4 = [] ∧ r.f6 = 0 ∧ r.f7 = 0 ∧ r.f8 = []) ∨
    (r.f0 = 7 ∧ nD r.f8 = true ∧ r.f8.length ≤ 5000 ∧ (0 ≤ r.f6 ∧ r.f6 ≤ 10000) ∧ (0 ≤ r.f7 ∧ r.f7 ≤ 10000) ∧ r.f2 = 0 ∧ r.f3 = [] ∧ r.f4 = [] ∧ r.f5.f0 = 0 ∧ r.f5.f1 = []) := by
  unfold jT at h
  by_cases h1 : r.f0 = 1
  · rw [if_pos h1] at h
    simp only [Bool.and_eq_true, beq_iff_eq] at h
    obtain ⟨⟨⟨⟨⟨⟨⟨ha, hb⟩, hc⟩, hd⟩, he⟩, hf⟩, hg⟩, hi⟩ := h
    exact .inl ⟨h1, ha, hb, hc, hd, kW he, hf, hg, kW hi⟩
  rw [if_neg h1] at h
  by_cases h2 : r.f0 = 2
  · rw [if_pos h2] at h
    simp only [Bool.and_eq_true, beq_iff_eq] at h
    obtain ⟨⟨⟨⟨⟨⟨ha, hb⟩, hc⟩, hd⟩, he⟩, hf⟩, hg⟩ := h
    exact .inr (.inl ⟨h2, ha, kW hb, hc, kW hd, he, hf, kW hg⟩)
  rw [if_neg h2] at h
  by_cases h3 : (decide (r.f0 = 3) || decide (r.f0 = 4) || decide (r.f0 = 5)) = true
  · rw [if_pos h3] at h
    have h3' : r.f0 = 3 ∨ r.f0 = 4 ∨ r.f0 = 5 := by
      simp only [Bool.or_eq_true, decide_eq_true_eq] at h3
      omega
    simp only [Bool.and_eq_true, beq_iff_eq] at h
    obtain ⟨⟨⟨⟨⟨⟨⟨ha, hb⟩, hc⟩, hd⟩, he⟩, hf⟩, hg⟩, hi⟩ := h
    exact .inr (.inr (.inl ⟨h3', ha, kW hb, kW hc, hd, kW he, hf, hg, kW hi⟩))
  rw [if_neg h3] at h
  by_cases h6 : r.f0 = 6
  · rw [if_pos h6] at h
    simp only [Bool.and_eq_true, beq_iff_eq, decide_eq_true_eq, List.all_eq_true] at h
    obtain ⟨⟨⟨⟨⟨⟨⟨⟨ha, hb⟩, hc⟩, hd⟩, he⟩, hf⟩, hg⟩, hi⟩, hj⟩ := h
    exact .inr (.inr (.inr (.inl ⟨h6, ha, hb, hc, hd, kW he, kW hf, hg, hi, kW hj⟩)))
  rw [if_neg h6] at h
  by_cases h7 : r.f0 = 7
  · rw [if_pos h7] at h
    simp only [Bool.and_eq_true, beq_iff_eq, decide_eq_true_eq] at h
    obtain ⟨⟨⟨⟨⟨⟨⟨⟨⟨⟨ha, hb⟩, hc⟩, hd⟩, he⟩, hf⟩, hg⟩, hi⟩, hj⟩, hk⟩, hl⟩ := h
    exact .inr (.inr (.inr (.inr ⟨h7, ha, hb, ⟨hc, hd⟩, ⟨he, hf⟩, hg, kW hi, kW hj, hk, kW hl⟩)))
  rw [if_neg h7] at h
  cases h
theorem rX : (kH []).length ≤ 140737488355328 := by decide
theorem z32 : (0:Int) ≤ 0 ∧ (0:Int) < 4294967296 := by decide
theorem oV : (jR []).length ≤ 140737488355328 := by decide
theorem yT (r : SRec) (h : jT r = true) : SLen r := by
  rcases LH r h with ⟨_, h3, h4, _, _, h6, _, _, h9⟩ | ⟨_, h3, h4, _, h6, _, _, h9⟩ | ⟨_, _, h3, h4, _, h6, _, _, h9⟩ | ⟨_, _, h6, _, _, h3, h4, _, _, h9⟩ | ⟨_, h9, h95, _, _, _, h3, h4, _, h6⟩
  · exact ⟨by have := rF _ h3; omega, by have := vI _ h4; omega, by rw [h6]; decide, by rw [h9]; exact oV⟩
  · exact ⟨by have := rF _ h3; omega, by rw [h4]; exact rX, by rw [h6]; decide, by rw [h9]; exact oV⟩
  · exact ⟨by rw [h3]; decide, by rw [h4]; exact rX, by rw [h6]; decide, by rw [h9]; exact oV⟩
  · exact ⟨by rw [h3]; decide, by rw [h4]; exact rX, by omega, by rw [h9]; exact oV⟩
  · exact ⟨by rw [h3]; decide, by rw [h4]; exact rX, by rw [h6]; decide, by have := xC _ h9 h95; omega⟩
/-- Alike just if of the same bytes. -/
theorem same_iff (r s : SRec) (h : jT r = true) (hk : J9 r) (h' : jT s = true) (hk' : J9 s) : U9 r s ↔ recE r = recE s := by
  constructor
  · rintro ⟨e0, e1, e2, e6, e7, e3, e4, ⟨e5, e51⟩, e8⟩
    unfold recE xY
    have h4 : kH r.f4 = kH s.f4 := e4
    rw [e0, e1, e2, e6, e7, e3, h4, e5, e51, e8]
  · intro e
    obtain ⟨rfl, _⟩ := TV r s [] [] h hk h' hk' (by rw [e])
    exact ⟨rfl, rfl, rfl, rfl, rfl, rfl, rfl, ⟨rfl, rfl⟩, rfl⟩
theorem yG (l : List jK) (h : ∀ f ∈ l, NG f) : ∀ f ∈ qO l, zZ f := by
  intro f hf
  unfold qO at hf
  obtain ⟨g, hg, rfl⟩ := List.mem_map.1 hf
  exact (h g (List.mem_of_mem_take hg)).2
theorem PG : ∀ (l : List jF) (last : Int), (∀ e ∈ l, I8 e) → ∀ e ∈ entM last l, zJ e
  | [], _, _, e, h => by cases h
  | x :: l, last, hl, e, h => by
    rw [entM] at h
    rcases List.mem_cons.1 h with rfl | h
    · exact ⟨by simp only; omega, by simp only; omega, yG _ (hl x List.mem_cons_self).2⟩
    · exact PG l _ (fun y hy => hl y (List.mem_cons_of_mem _ hy)) e h
theorem P5 (kind id at_ nodes : Int) (facts : List jK) (spans : List Int) (from_ to_ : Int) (entries : List jF) (hid : 0 ≤ id ∧ id < 4294967296) (hat : 0 ≤ at_ ∧ at_ < 4294967296) (hf : ∀ f ∈ facts, NG f) (he : ∀ e ∈ entries, I8 e) :
    J9 (vC kind id at_ nodes facts spans from_ to_ entries) := by
  have hk : 0 ≤ (1 + Int.tmod kind 7) % 256 ∧ (1 + Int.tmod kind 7) % 256 < 256 := by omega
  unfold vC
  simp only
  generalize (1 + Int.tmod kind 7) % 256 = k at hk
  split
  · exact ⟨hk, hid, z32, yG _ hf, z32, fun e h => by cases h⟩
  split
  · exact ⟨hk, hid, hat, fun e h => (by cases h), z32, fun e h => by cases h⟩
  split
  · exact ⟨hk, z32, z32, fun e h => (by cases h), hat, fun e h => by cases h⟩
  split
  · exact ⟨hk, hid, z32, fun e h => (by cases h), z32, PG _ _ (fun e h => he e (List.mem_of_mem_take h))⟩
  · exact ⟨hk, hid, z32, fun e h => (by cases h), z32, fun e h => by cases h⟩
end Go.Proofs.YtbbhjceelghadaaDoor.K
end

section
namespace Go.Proofs.YtbbhjceelghadaaDoor.K
open Go Go.RowKit Go.Proofs.YtbbhjceelghadaaDoorW.PrintWords Go.Proofs.YtbbhjceelghadaaDoorW.PrintLast Go.Proofs.YtbbhjceelghadaaDoorW.PrintMore Go.Proofs.YtbbhjceelghadaaDoor.My
theorem IZ {w : World} {base : Nat} {ok : Nat → Prop} {A : Option Addr} {n c : Nat} {r : List Int} (h : Kd.R (Kd.int .u8) 5 w base ok (.slice A n c) r) : (convert 23 9 (.slice A n c)).run Tryd.prog w = .ok (.string (strOfNums r)) w :=
  kS (P := Tryd.prog) Tryd.underlying23 Tryd.underlying5 Tryd.underlying9 (Kd.own_of_R h)
/-- A record's parts, as they lie in a world. -/
structure Lies (w : World) (r : SRec) (A3 : Option Addr) (a3 : Nat) (A4 : Option Addr) (a4 : Nat) (A6 : Option Addr) (a6 : Nat) (A9 : Option Addr) (a9 : Nat) : Prop where
  h3 : Kd.C (Kd.int .i64) w A3 r.f3.length r.f3
  d3 : r.f3.length ≤ a3
  h4 : Kd.C k76 w A4 r.f4.length r.f4
  d4 : r.f4.length ≤ a4
  h6 : Kd.C k132 w A6 r.f5.f1.length r.f5.f1
  d6 : r.f5.f1.length ≤ a6
  h9 : Kd.C k124 w A9 r.f8.length r.f8
  d9 : r.f8.length ≤ a9
theorem Lies.below {w w' : World} {r : SRec} {A3 A4 A6 A9 : Option Addr} {a3 a4 a6 a9 : Nat} (h : Lies w r A3 a3 A4 a4 A6 a6 A9 a9) (hb : Below w.heap.size w w') : Lies w' r A3 a3 A4 a4 A6 a6 A9 a9 :=
  ⟨Kd.C_below h.h3 hb, h.d3, Kd.C_below h.h4 hb, h.d4, Kd.C_below h.h6 hb, h.d6, Kd.C_below h.h9 hb, h.d9⟩
theorem yM {w : World} {r : SRec} {A3 A4 A6 A9 : Option Addr} {a3 a4 a6 a9 : Nat} (h : Lies w r A3 a3 A4 a4 A6 a6 A9 a9) : ∃ v : Int, Calls Tryd.prog 37 #[.agg #[.int .u8 r.f0, .int .u32 r.f1, .int .u32 r.f2, .slice A3 r.f3.length a3, .slice A4 r.f4.length a4, .int .u32 r.f5.f0, .slice A6 r.f5.f1.length a6, .int .i64 r.f6, .int .i64 r.f7, .slice A9 r.f8.length a9]] w fun e w' => e = .returned (.int .i64 v) ∧ Below w.heap.size w w' :=
  Q4 _ _ _ _ _ _ _ _ _ _ _ _ _ _ _ _ _ _ _ h.h3 h.d3 h.h4 h.d4 h.h6 h.d6 h.h9 h.d9
theorem vZ {w : World} {r : SRec} {A3 A4 A6 A9 : Option Addr} {a3 a4 a6 a9 : Nat} (h : Lies w r A3 a3 A4 a4 A6 a6 A9 a9) {E1 : List Int} {E2 : Int} (hE : encR r = (E1, E2)) : Calls Tryd.prog 39 #[.agg #[.int .u8 r.f0, .int .u32 r.f1, .int .u32 r.f2, .slice A3 r.f3.length a3, .slice A4 r.f4.length a4, .int .u32 r.f5.f0, .slice A6 r.f5.f1.length a6, .int .i64 r.f6, .int .i64 r.f7, .slice A9 r.f8.length a9]] w fun e w' => ∃ v0_ : Value, e = .returned (.tuple #[v0_, .int .u16 E2]) ∧ Kd.R (Kd.int .u8) 5 w' w.heap.size (fun _ => True) v0_ E1 ∧ Below w.heap.size w w' :=
  code_Encode.calls r.f0 r.f1 r.f2 A3 a3 r.f3 A4 a4 r.f4 r.f5.f0 A6 a6 r.f5.f1 r.f6 r.f7 A9 a9 r.f8 E1 E2 w h.h3 h.d3 h.h4 h.d4 h.h6 h.d6 h.h9 h.d9 (congrArg some hE)
theorem OJ {w : World} {r s : SRec} {A3 A4 A6 A9 B3 B4 B6 B9 : Option Addr} {a3 a4 a6 a9 b3 b4 b6 b9 : Nat} (h : Lies w r A3 a3 A4 a4 A6 a6 A9 a9) (g : Lies w s B3 b3 B4 b4 B6 b6 B9 b9) {t : Bool} (ht : ∃ k, stratumref07_Same.f k r.f0 r.f1 r.f2 r.f3 r.f4 r.f5.f0 r.f5.f1 r.f6 r.f7 r.f8 s.f0 s.f1 s.f2 s.f3 s.f4 s.f5.f0 s.f5.f1 s.f6 s.f7 s.f8 = some t) :
    Calls Tryd.prog 45 #[.agg #[.int .u8 r.f0, .int .u32 r.f1, .int .u32 r.f2, .slice A3 r.f3.length a3, .slice A4 r.f4.length a4, .int .u32 r.f5.f0, .slice A6 r.f5.f1.length a6, .int .i64 r.f6, .int .i64 r.f7, .slice A9 r.f8.length a9], .agg #[.int .u8 s.f0, .int .u32 s.f1, .int .u32 s.f2, .slice B3 s.f3.length b3, .slice B4 s.f4.length b4, .int .u32 s.f5.f0, .slice B6 s.f5.f1.length b6, .int .i64 s.f6, .int .i64 s.f7, .slice B9 s.f8.length b9]] w fun e w' => e = .returned (.bool t) ∧ Below w.heap.size w w' := by
  obtain ⟨k, hk⟩ := ht
  exact stratumref07_Same.calls k _ _ _ _ _ _ _ _ _ _ _ _ _ _ _ _ _ _ _ _ _ _ _ _ _ _ _ _ _ _ _ _ _ _ _ _ t w h.h3 h.d3 h.h4 h.d4 h.h6 h.d6 h.h9 h.d9 g.h3 g.d3 g.h4 g.d4 g.h6 g.d6 g.h9 g.d9 hk
def QM (w : World) (r : SRec) (e : Ending) (w' : World) : Prop := ∃ A3 a3 A4 a4 A6 a6 A9 a9, e = .returned (.agg #[.int .u8 r.f0, .int .u32 r.f1, .int .u32 r.f2, .slice A3 r.f3.length a3, .slice A4 r.f4.length a4, .int .u32 r.f5.f0, .slice A6 r.f5.f1.length a6, .int .i64 r.f6, .int .i64 r.f7, .slice A9 r.f8.length a9]) ∧ Lies w' r A3 a3 A4 a4 A6 a6 A9 a9 ∧ Below w.heap.size w w'
theorem LQ (kind id at_ nodes : Int) {A4 : Option Addr} {a4 : Nat} (l4 : List jK) {A5 : Option Addr} {a5 : Nat} (l5 : List Int) (from_ to_ : Int) {A8 : Option Addr} {a8 : Nat} (l8 : List jF) {w : World} (h4 : Kd.C k76 w A4 l4.length l4) (d4 : l4.length ≤ a4) (h5 : Kd.C (Kd.int .u16) w A5 l5.length l5) (d5 : l5.length ≤ a5) (h8 : Kd.C k124 w A8 l8.length l8) (d8 : l8.length ≤ a8) (hf : ∀ e ∈ l8, e.f1.length ≤ 9223372036854775807)
    {r : SRec} (hr : vC kind id at_ nodes l4 l5 from_ to_ l8 = r) :
    Calls Tryd.prog 43 #[.int .u8 kind, .int .u32 id, .int .u32 at_, .int .u8 nodes, .slice A4 l4.length a4, .slice A5 l5.length a5, .int .u16 from_, .int .u16 to_, .slice A8 l8.length a8] w (QM w r) := by
  have hev := U6 kind id at_ nodes l4 l5 from_ to_ l8 (lK h4) hf
  rw [hr] at hev
  obtain ⟨k, hk⟩ := hev.rounds
  refine (stratumlaw07_Make.calls k kind id at_ nodes A4 a4 l4 A5 a5 l5 from_ to_ A8 a8 l8 _ _ _ _ _ _ _ _ _ _ w h4 d4 h5 d5 h8 d8 hk).mono ?_
  rintro e w1 ⟨v3, v4, v6, v9, rfl, g3, g4, g6, g9, hB⟩
  obtain ⟨B3, b3, rfl⟩ := Kd.R_slice g3
  obtain ⟨B4, b4, rfl⟩ := Kd.R_slice g4
  obtain ⟨B6, b6, rfl⟩ := Kd.R_slice g6
  obtain ⟨B9, b9, rfl⟩ := Kd.R_slice g9
  obtain ⟨_, q3, C3⟩ := Kd.R_reads' g3
  obtain ⟨_, q4, C4⟩ := Kd.R_reads' g4
  obtain ⟨_, q6, C6⟩ := Kd.R_reads' g6
  obtain ⟨_, q9, C9⟩ := Kd.R_reads' g9
  exact ⟨B3, b3, B4, b4, B6, b6, B9, b9, rfl, ⟨C3, q3, C4, q4, C6, q6, C9, q9⟩, hB⟩
/-- Encoded: a sound record. -/
theorem I9 {r : SRec} (h : jT r = true) : encR r = ([], 3) ∨ encR r = (nums (recE r), 0) := by
  unfold encR
  rw [if_pos h]
  split
  · exact .inl rfl
  · exact .inr rfl
end Go.Proofs.YtbbhjceelghadaaDoor.K
end

section
namespace Go.Proofs.YtbbhjceelghadaaDoor.K
open Go Go.RowKit Go.Proofs.YtbbhjceelghadaaDoorW.PrintWords Go.Proofs.YtbbhjceelghadaaDoorW.PrintLast Go.Proofs.YtbbhjceelghadaaDoorW.PrintMore Go.Proofs.YtbbhjceelghadaaDoor.My
attribute [-go_sem] Instr.storeAt
set_option maxHeartbeats 8000000 in
set_option maxRecDepth 20000 in
theorem zS (r s : SRec) (A3 : Option Addr) (a3 : Nat) (A4 : Option Addr) (a4 : Nat) (A6 : Option Addr) (a6 : Nat) (A9 : Option Addr) (a9 : Nat) (B3 : Option Addr) (b3 : Nat) (B4 : Option Addr) (b4 : Nat) (B6 : Option Addr) (b6 : Nat) (B9 : Option Addr) (b9 : Nat) (ka kb_ na nb : Int) (w : World) (g : Lies w r A3 a3 A4 a4 A6 a6 A9 a9) (h : Lies w s B3 b3 B4 b4 B6 b6 B9 b9)
    (X Y : SRec) (hX : vC ka r.f1 r.f2 na r.f4 [] 1 2 r.f8 = X) (hY : vC kb_ s.f1 s.f2 nb s.f4 [] 1 2 s.f8 = Y) (hsX : jT X = true) (hsY : jT Y = true) (hfr : ∀ e ∈ r.f8, e.f1.length ≤ 9223372036854775807) (hfs : ∀ e ∈ s.f8, e.f1.length ≤ 9223372036854775807) (t : Bool) (ht : decide (recE X = recE Y) = t)
    (hsame : ∃ k, stratumref07_Same.f k X.f0 X.f1 X.f2 X.f3 X.f4 X.f5.f0 X.f5.f1 X.f6 X.f7 X.f8 Y.f0 Y.f1 Y.f2 Y.f3 Y.f4 Y.f5.f0 Y.f5.f1 Y.f6 Y.f7 Y.f8 = some t) :
    Calls Tryd.prog 13 #[.agg #[.int .u8 r.f0, .int .u32 r.f1, .int .u32 r.f2, .slice A3 r.f3.length a3, .slice A4 r.f4.length a4, .int .u32 r.f5.f0, .slice A6 r.f5.f1.length a6, .int .i64 r.f6, .int .i64 r.f7, .slice A9 r.f8.length a9], .agg #[.int .u8 s.f0, .int .u32 s.f1, .int .u32 s.f2, .slice B3 s.f3.length b3, .slice B4 s.f4.length b4, .int .u32 s.f5.f0, .slice B6 s.f5.f1.length b6, .int .i64 s.f6, .int .i64 s.f7, .slice B9 s.f8.length b9], .int .u8 ka, .int .u8 kb_, .int .u8 na, .int .u8 nb] w fun e w' => e = .returned (.bool true) ∧ Below w.heap.size w w' := by
  have hbw : Below w.heap.size w ((w.alloc (.cells #[.int .u8 r.f0, .int .u32 r.f1, .int .u32 r.f2, .slice A3 r.f3.length a3, .slice A4 r.f4.length a4, .int .u32 r.f5.f0, .slice A6 r.f5.f1.length a6, .int .i64 r.f6, .int .i64 r.f7, .slice A9 r.f8.length a9] 57)).alloc (.cells #[.int .u8 s.f0, .int .u32 s.f1, .int .u32 s.f2, .slice B3 s.f3.length b3, .slice B4 s.f4.length b4, .int .u32 s.f5.f0, .slice B6 s.f5.f1.length b6, .int .i64 s.f6, .int .i64 s.f7, .slice B9 s.f8.length b9] 57)) := iG (iG (Below.refl _ _) _) _
  have hxb : ((w.alloc (.cells #[.int .u8 r.f0, .int .u32 r.f1, .int .u32 r.f2, .slice A3 r.f3.length a3, .slice A4 r.f4.length a4, .int .u32 r.f5.f0, .slice A6 r.f5.f1.length a6, .int .i64 r.f6, .int .i64 r.f7, .slice A9 r.f8.length a9] 57)).alloc (.cells #[.int .u8 s.f0, .int .u32 s.f1, .int .u32 s.f2, .slice B3 s.f3.length b3, .slice B4 s.f4.length b4, .int .u32 s.f5.f0, .slice B6 s.f5.f1.length b6, .int .i64 s.f6, .int .i64 s.f7, .slice B9 s.f8.length b9] 57)).heap[w.heap.size]? = some (.cells #[.int .u8 r.f0, .int .u32 r.f1, .int .u32 r.f2, .slice A3 r.f3.length a3, .slice A4 r.f4.length a4, .int .u32 r.f5.f0, .slice A6 r.f5.f1.length a6, .int .i64 r.f6, .int .i64 r.f7, .slice A9 r.f8.length a9] 57 (0, 0)) := iP (iG (Below.refl (w.alloc (.cells #[.int .u8 r.f0, .int .u32 r.f1, .int .u32 r.f2, .slice A3 r.f3.length a3, .slice A4 r.f4.length a4, .int .u32 r.f5.f0, .slice A6 r.f5.f1.length a6, .int .i64 r.f6, .int .i64 r.f7, .slice A9 r.f8.length a9] 57)).heap.size _) _) (jE rfl)
  have hyb : ((w.alloc (.cells #[.int .u8 r.f0, .int .u32 r.f1, .int .u32 r.f2, .slice A3 r.f3.length a3, .slice A4 r.f4.length a4, .int .u32 r.f5.f0, .slice A6 r.f5.f1.length a6, .int .i64 r.f6, .int .i64 r.f7, .slice A9 r.f8.length a9] 57)).alloc (.cells #[.int .u8 s.f0, .int .u32 s.f1, .int .u32 s.f2, .slice B3 s.f3.length b3, .slice B4 s.f4.length b4, .int .u32 s.f5.f0, .slice B6 s.f5.f1.length b6, .int .i64 s.f6, .int .i64 s.f7, .slice B9 s.f8.length b9] 57)).heap[(w.alloc (.cells #[.int .u8 r.f0, .int .u32 r.f1, .int .u32 r.f2, .slice A3 r.f3.length a3, .slice A4 r.f4.length a4, .int .u32 r.f5.f0, .slice A6 r.f5.f1.length a6, .int .i64 r.f6, .int .i64 r.f7, .slice A9 r.f8.length a9] 57)).heap.size]? = some (.cells #[.int .u8 s.f0, .int .u32 s.f1, .int .u32 s.f2, .slice B3 s.f3.length b3, .slice B4 s.f4.length b4, .int .u32 s.f5.f0, .slice B6 s.f5.f1.length b6, .int .i64 s.f6, .int .i64 s.f7, .slice B9 s.f8.length b9] 57 (0, 0)) := jE rfl
  rw [show (w.alloc (.cells #[.int .u8 r.f0, .int .u32 r.f1, .int .u32 r.f2, .slice A3 r.f3.length a3, .slice A4 r.f4.length a4, .int .u32 r.f5.f0, .slice A6 r.f5.f1.length a6, .int .i64 r.f6, .int .i64 r.f7, .slice A9 r.f8.length a9] 57)).heap.size = w.heap.size + 1 from Array.size_push _] at hyb
  obtain ⟨v, hheavy⟩ := yM (g.below hbw)
  have G := iE.mk g; have H := iE.mk h; have HSM := iE.mk hsame; have HT := iE.mk ht; have HSX := iE.mk hsX; have HSY := iE.mk hsY; have HMX := iE.mk hX; have HMY := iE.mk hY; have HFR := iE.mk hfr; have HFS := iE.mk hfs; have HB0 := iE.mk hbw; have HXB := iE.mk hxb; have HYB := iE.mk hyb
  clear g h hsame ht hsX hsY hX hY hfr hfs hbw hxb hyb
  go_enter Tryd.func13, Tryd.ntmps13
  obtain ⟨xz0, xz1, xz2, xz3, xz4, xz5, xz6, xz7, xz8, xz9, xy0, xy1, xy2, xy3, xy4, xy5, xy6, xy7, xy8, xy9⟩ := ten HXB.out
  go_wp2_with fail
  go_at_call 37
  (with_reducible refine hheavy.mono ?_)
  clear hheavy xz0 xz1 xz2 xz3 xz4 xz5 xz6 xz7 xz8 xz9 xy0 xy1 xy2 xy3 xy4 xy5 xy6 xy7 xy8 xy9
  rintro e w1 ⟨rfl, hb1⟩
  have HB1 := iE.mk (iL HB0.out hb1)
  have HX1 := iE.mk (iP hb1 HXB.out)
  have HY1 := iE.mk (iP hb1 HYB.out)
  clear hb1 HB0 HXB HYB
  have hknown := fun w => stratumlaw07_known.calls true w rfl
  by_cases hv : v > 2000
  · go_wp2_with fail
    go_at_call 38
    (with_reducible refine (hknown _).mono ?_)
    rintro e wk ⟨rfl, hbk⟩
    clear hknown
    go_wp2_with fail
    go_ret
    exact ⟨rfl, iL HB1.out hbk⟩
  obtain ⟨v2, hheavy⟩ := yM (H.out.below HB1.out)
  obtain ⟨xz0, xz1, xz2, xz3, xz4, xz5, xz6, xz7, xz8, xz9, xy0, xy1, xy2, xy3, xy4, xy5, xy6, xy7, xy8, xy9⟩ := ten HY1.out
  go_wp2_with fail
  go_at_call 37
  (with_reducible refine hheavy.mono ?_)
  clear hheavy xz0 xz1 xz2 xz3 xz4 xz5 xz6 xz7 xz8 xz9 xy0 xy1 xy2 xy3 xy4 xy5 xy6 xy7 xy8 xy9
  rintro e w2 ⟨rfl, hb2⟩
  have HB2 := iE.mk (iL HB1.out hb2)
  have HX2 := iE.mk (iP hb2 HX1.out)
  have HY2 := iE.mk (iP hb2 HY1.out)
  clear hb2 HB1 HX1 HY1
  by_cases hv2 : v2 > 2000
  · go_wp2_with fail
    go_at_call 38
    (with_reducible refine (hknown _).mono ?_)
    rintro e wk ⟨rfl, hbk⟩
    clear hknown
    go_wp2_with fail
    go_ret
    exact ⟨rfl, iL HB2.out hbk⟩
  go_wp2_with fail
  go_at_call 38
  (with_reducible refine (hknown _).mono ?_)
  rintro e w3 ⟨rfl, hb3⟩
  clear hknown
  have HB3 := iE.mk (iL HB2.out hb3)
  have HX3 := iE.mk (iP hb3 HX2.out)
  have HY3 := iE.mk (iP hb3 HY2.out)
  clear hb3 HB2 HX2 HY2
  obtain ⟨xz0, xz1, xz2, xz3, xz4, xz5, xz6, xz7, xz8, xz9, xy0, xy1, xy2, xy3, xy4, xy5, xy6, xy7, xy8, xy9⟩ := ten HX3.out
  have GL := G.out.below HB3.out
  have hcall := LQ ka r.f1 r.f2 na (A4 := A4) (a4 := a4) r.f4 (A5 := none) (a5 := 0) [] 1 2 (A8 := A9) (a8 := a9) r.f8 GL.h4 GL.d4 (Kd.C_nil _ _) (Nat.le_refl _) GL.h9 GL.d9 HFR.out HMX.out
  simp only [List.length_nil] at hcall
  clear GL
  go_wp2_with fail
  go_at_call 43
  (with_reducible refine hcall.mono ?_)
  clear hcall xz0 xz1 xz2 xz3 xz4 xz5 xz6 xz7 xz8 xz9 xy0 xy1 xy2 xy3 xy4 xy5 xy6 xy7 xy8 xy9
  rintro e w4 ⟨C3, c3, C4, c4, C6, c6, C9, c9, rfl, l4, hb4⟩
  have hba : Below w4.heap.size w4 (w4.alloc (.cells #[.int .u8 X.f0, .int .u32 X.f1, .int .u32 X.f2, .slice C3 X.f3.length c3, .slice C4 X.f4.length c4, .int .u32 X.f5.f0, .slice C6 X.f5.f1.length c6, .int .i64 X.f6, .int .i64 X.f7, .slice C9 X.f8.length c9] 57)) := iG (Below.refl _ _) _
  have hbb := hb4.trans (hba.mono hb4.size)
  have HB4 := iE.mk (iL HB3.out hbb)
  have HY4 := iE.mk (iP hbb HY3.out)
  have LX := iE.mk (l4.below hba)
  have HP4 := iE.mk (show (w4.alloc (.cells #[.int .u8 X.f0, .int .u32 X.f1, .int .u32 X.f2, .slice C3 X.f3.length c3, .slice C4 X.f4.length c4, .int .u32 X.f5.f0, .slice C6 X.f5.f1.length c6, .int .i64 X.f6, .int .i64 X.f7, .slice C9 X.f8.length c9] 57)).heap[w4.heap.size]? = some (.cells #[.int .u8 X.f0, .int .u32 X.f1, .int .u32 X.f2, .slice C3 X.f3.length c3, .slice C4 X.f4.length c4, .int .u32 X.f5.f0, .slice C6 X.f5.f1.length c6, .int .i64 X.f6, .int .i64 X.f7, .slice C9 X.f8.length c9] 57 (0, 0)) from jE rfl)
  have hsx := fun (_ : True) => run_storeAt_new (P := Tryd.prog) w4 57 #[.int .u8 0, .int .u32 0, .int .u32 0, .slice none 0 0, .slice none 0 0, .int .u32 0, .slice none 0 0, .int .i64 0, .int .i64 0, .slice none 0 0] #[.int .u8 X.f0, .int .u32 X.f1, .int .u32 X.f2, .slice C3 X.f3.length c3, .slice C4 X.f4.length c4, .int .u32 X.f5.f0, .slice C6 X.f5.f1.length c6, .int .i64 X.f6, .int .i64 X.f7, .slice C9 X.f8.length c9] (by kernel_rfl) rfl (by simp [Value.oneCell'])
  have GL := H.out.below HB4.out
  have hcall := LQ kb_ s.f1 s.f2 nb (A4 := B4) (a4 := b4) s.f4 (A5 := none) (a5 := 0) [] 1 2 (A8 := B9) (a8 := b9) s.f8 GL.h4 GL.d4 (Kd.C_nil _ _) (Nat.le_refl _) GL.h9 GL.d9 HFS.out HMY.out
  simp only [List.length_nil] at hcall
  obtain ⟨xz0, xz1, xz2, xz3, xz4, xz5, xz6, xz7, xz8, xz9, xy0, xy1, xy2, xy3, xy4, xy5, xy6, xy7, xy8, xy9⟩ := ten HY4.out
  clear GL l4 hba hbb hb4 HB3 HX3 HY3
  go_wp2_with fail
  go_at_call 43
  (with_reducible refine hcall.mono ?_)
  clear hcall hsx xz0 xz1 xz2 xz3 xz4 xz5 xz6 xz7 xz8 xz9 xy0 xy1 xy2 xy3 xy4 xy5 xy6 xy7 xy8 xy9
  rintro e w5 ⟨D3, d3, D4, d4, D6, d6, D9, d9, rfl, l5, hb5⟩
  have hba : Below w5.heap.size w5 (w5.alloc (.cells #[.int .u8 Y.f0, .int .u32 Y.f1, .int .u32 Y.f2, .slice D3 Y.f3.length d3, .slice D4 Y.f4.length d4, .int .u32 Y.f5.f0, .slice D6 Y.f5.f1.length d6, .int .i64 Y.f6, .int .i64 Y.f7, .slice D9 Y.f8.length d9] 57)) := iG (Below.refl _ _) _
  have hbb := hb5.trans (hba.mono hb5.size)
  have HB5 := iE.mk (iL HB4.out hbb)
  have LX5 := iE.mk (LX.out.below hbb)
  have LY5 := iE.mk (l5.below hba)
  have HP5 := iE.mk (iP hbb HP4.out)
  have HQ5 := iE.mk (show (w5.alloc (.cells #[.int .u8 Y.f0, .int .u32 Y.f1, .int .u32 Y.f2, .slice D3 Y.f3.length d3, .slice D4 Y.f4.length d4, .int .u32 Y.f5.f0, .slice D6 Y.f5.f1.length d6, .int .i64 Y.f6, .int .i64 Y.f7, .slice D9 Y.f8.length d9] 57)).heap[w5.heap.size]? = some (.cells #[.int .u8 Y.f0, .int .u32 Y.f1, .int .u32 Y.f2, .slice D3 Y.f3.length d3, .slice D4 Y.f4.length d4, .int .u32 Y.f5.f0, .slice D6 Y.f5.f1.length d6, .int .i64 Y.f6, .int .i64 Y.f7, .slice D9 Y.f8.length d9] 57 (0, 0)) from jE rfl)
  have hsx := fun (_ : True) => run_storeAt_new (P := Tryd.prog) w5 57 #[.int .u8 0, .int .u32 0, .int .u32 0, .slice none 0 0, .slice none 0 0, .int .u32 0, .slice none 0 0, .int .i64 0, .int .i64 0, .slice none 0 0] #[.int .u8 Y.f0, .int .u32 Y.f1, .int .u32 Y.f2, .slice D3 Y.f3.length d3, .slice D4 Y.f4.length d4, .int .u32 Y.f5.f0, .slice D6 Y.f5.f1.length d6, .int .i64 Y.f6, .int .i64 Y.f7, .slice D9 Y.f8.length d9] (by kernel_rfl) rfl (by simp [Value.oneCell'])
  clear l5 hba hbb hb5 HB4 HY4 LX HP4
  obtain ⟨⟨E1, E2⟩, hE⟩ : ∃ E : List Int × Int, encR X = E := ⟨_, rfl⟩
  obtain ⟨⟨F1, F2⟩, hF⟩ : ∃ E : List Int × Int, encR Y = E := ⟨_, rfl⟩
  have HE := iE.mk hE; have HF := iE.mk hF
  clear hE hF
  have hcall := vZ LX5.out HE.out
  obtain ⟨xz0, xz1, xz2, xz3, xz4, xz5, xz6, xz7, xz8, xz9, xy0, xy1, xy2, xy3, xy4, xy5, xy6, xy7, xy8, xy9⟩ := ten HP5.out
  go_wp2_with fail
  go_at_call 39
  (with_reducible refine hcall.mono ?_)
  clear hcall hsx xz0 xz1 xz2 xz3 xz4 xz5 xz6 xz7 xz8 xz9 xy0 xy1 xy2 xy3 xy4 xy5 xy6 xy7 xy8 xy9
  rintro e w6 ⟨va, rfl, hra, hb6⟩
  obtain ⟨Aa, ca, rfl⟩ := Kd.R_slice hra
  have HB6 := iE.mk (iL HB5.out hb6)
  have LX6 := iE.mk (LX5.out.below hb6); have LY6 := iE.mk (LY5.out.below hb6); have HP6 := iE.mk (iP hb6 HP5.out); have HQ6 := iE.mk (iP hb6 HQ5.out); have HRA := iE.mk hra
  clear hra hb6 HB5 LX5 LY5 HP5 HQ5
  have hcall := vZ LY6.out HF.out
  obtain ⟨xz0, xz1, xz2, xz3, xz4, xz5, xz6, xz7, xz8, xz9, xy0, xy1, xy2, xy3, xy4, xy5, xy6, xy7, xy8, xy9⟩ := ten HQ6.out
  go_wp2_with fail
  go_at_call 39
  (with_reducible refine hcall.mono ?_)
  clear hcall xz0 xz1 xz2 xz3 xz4 xz5 xz6 xz7 xz8 xz9 xy0 xy1 xy2 xy3 xy4 xy5 xy6 xy7 xy8 xy9
  rintro e w7 ⟨vb, rfl, hrb, hb7⟩
  obtain ⟨Ab, cb, rfl⟩ := Kd.R_slice hrb
  have HB7 := iE.mk (iL HB6.out hb7)
  have LX7 := iE.mk (LX6.out.below hb7); have LY7 := iE.mk (LY6.out.below hb7); have HP7 := iE.mk (iP hb7 HP6.out); have HQ7 := iE.mk (iP hb7 HQ6.out); have HRA7 := iE.mk (Kd.R_below HRA.out hb7); have HRB7 := iE.mk hrb
  clear hrb hb7 HB6 LX6 LY6 HP6 HQ6 HRA
  have he := (I9 HSX.out).imp (fun h => HE.out.symm.trans h) (fun h => HE.out.symm.trans h)
  have hf := (I9 HSY.out).imp (fun h => HF.out.symm.trans h) (fun h => HF.out.symm.trans h)
  rcases he with he | he
  · obtain ⟨_, rfl⟩ := Prod.mk.inj he
    have hf2 : F2 = 3 ∨ F2 = 0 := hf.imp (fun h => (Prod.mk.inj h).2) (fun h => (Prod.mk.inj h).2)
    clear he hf
    rcases hf2 with rfl | rfl <;> (go_wp2_with fail; go_ret; exact ⟨rfl, HB7.out⟩)
  rcases hf with hf | hf
  · obtain ⟨_, rfl⟩ := Prod.mk.inj he
    obtain ⟨_, rfl⟩ := Prod.mk.inj hf
    clear he hf
    go_wp2_with fail
    go_ret
    exact ⟨rfl, HB7.out⟩
  have hq : ((strOfNums E1).toList == (strOfNums F1).toList) = t := by
    rw [(Prod.mk.inj he).1, (Prod.mk.inj hf).1, qL]
    exact HT.out
  obtain ⟨hz1, rfl⟩ := Prod.mk.inj he
  obtain ⟨hz2, rfl⟩ := Prod.mk.inj hf
  have HQT := iE.mk hq
  clear he hf hq hz1 hz2
  go_wp2_with fail
  refine UO [76, 77, 78, 79, 80, 81, 82, 83, 84, 12] [fun v _ => v = (.slice Aa E1.length ca), fun v _ => v = (.string (strOfNums E1)), fun v _ => v = (.slice Ab F1.length cb), fun v _ => v = (.string (strOfNums F1)), fun v _ => v = (.bool t), fun v _ => v = (.agg #[.int .u8 X.f0, .int .u32 X.f1, .int .u32 X.f2, .slice C3 X.f3.length c3, .slice C4 X.f4.length c4, .int .u32 X.f5.f0, .slice C6 X.f5.f1.length c6, .int .i64 X.f6, .int .i64 X.f7, .slice C9 X.f8.length c9]), fun v _ => v = (.agg #[.int .u8 Y.f0, .int .u32 Y.f1, .int .u32 Y.f2, .slice D3 Y.f3.length d3, .slice D4 Y.f4.length d4, .int .u32 Y.f5.f0, .slice D6 Y.f5.f1.length d6, .int .i64 Y.f6, .int .i64 Y.f7, .slice D9 Y.f8.length d9]), fun v _ => v = (.bool t), fun v _ => v = (.bool true), fun v _ => v = (.bool true)] [0, 1, 2, 3, 4, 5, 6, 7, 8, 9] (true, [([], []), ([0], [0]), ([], []), ([2], [2]), ([1, 3], [1, 3]), ([], []), ([], []), ([5, 6], [5, 6]), ([4, 7], [4, 7]), ([8, 7, 0, 1, 2, 3, 4, 5, 6, 7, 8], [8])]) [0, 1, 0, 4, 15, 0, 0, 96, 255, 511] (by kernel_rfl) (by kernel_rfl) (by kernel_rfl) (by kernel_rfl) (by kernel_rfl) (by kernel_rfl) (by kernel_rfl) (by rfl) (by kernel_rfl) ?_ ?_ ?_
  · exact (nH (xU _) (nH (xU _) (nH (xU _) (nH (xU _) (nH (xU _) (nH (xU _) (nH (xU _) (nH (xU _) (nH (xU _) (nH (xU _) UL))))))))))
  · refine kZ ?_ ?_
    · intro a w' vs hB hel hd
      have e15 : a.tmps[15]? = some (.slice Aa E1.length ca) := (hel 15 (by kernel_rfl)).trans (by rfl)
      refine ⟨_, rfl, rfl, fun K hK => ?_⟩
      refine jY (w1 := w') (v := .slice Aa E1.length ca) (by rfl) rfl ?_ (hK _ _ (by exact rfl) (Below.refl _ _))
      · go_simp
        (try simp only [iW, kC])
        (try rfl)
        (try (unfold Go.RowKit.wrap64; omega))
    refine kZ ?_ ?_
    · intro a w' vs hB hel hd
      obtain ⟨f76, r76⟩ := hd 0 (by kernel_rfl)
      have e76 : a.tmps[76]? = some (.slice Aa E1.length ca) := f76.trans (congrArg some (r76 : vs 0 = (.slice Aa E1.length ca)))
      have q1 := IZ (Kd.R_below HRA7.out hB)
      refine ⟨_, rfl, rfl, fun K hK => ?_⟩
      refine jY (w1 := w') (v := .string (strOfNums E1)) (by rfl) rfl ?_ (hK _ _ (by exact rfl) (Below.refl _ _))
      · go_simp
        (try simp only [iW, kC])
        (try rfl)
        (try (unfold Go.RowKit.wrap64; omega))
    refine kZ ?_ ?_
    · intro a w' vs hB hel hd
      have e17 : a.tmps[17]? = some (.slice Ab F1.length cb) := (hel 17 (by kernel_rfl)).trans (by rfl)
      refine ⟨_, rfl, rfl, fun K hK => ?_⟩
      refine jY (w1 := w') (v := .slice Ab F1.length cb) (by rfl) rfl ?_ (hK _ _ (by exact rfl) (Below.refl _ _))
      · go_simp
        (try simp only [iW, kC])
        (try rfl)
        (try (unfold Go.RowKit.wrap64; omega))
    refine kZ ?_ ?_
    · intro a w' vs hB hel hd
      obtain ⟨f78, r78⟩ := hd 2 (by kernel_rfl)
      have e78 : a.tmps[78]? = some (.slice Ab F1.length cb) := f78.trans (congrArg some (r78 : vs 2 = (.slice Ab F1.length cb)))
      have q1 := IZ (Kd.R_below HRB7.out hB)
      refine ⟨_, rfl, rfl, fun K hK => ?_⟩
      refine jY (w1 := w') (v := .string (strOfNums F1)) (by rfl) rfl ?_ (hK _ _ (by exact rfl) (Below.refl _ _))
      · go_simp
        (try simp only [iW, kC])
        (try rfl)
        (try (unfold Go.RowKit.wrap64; omega))
    refine kZ ?_ ?_
    · intro a w' vs hB hel hd
      obtain ⟨f77, r77⟩ := hd 1 (by kernel_rfl)
      have e77 : a.tmps[77]? = some (.string (strOfNums E1)) := f77.trans (congrArg some (r77 : vs 1 = (.string (strOfNums E1))))
      obtain ⟨f79, r79⟩ := hd 3 (by kernel_rfl)
      have e79 : a.tmps[79]? = some (.string (strOfNums F1)) := f79.trans (congrArg some (r79 : vs 3 = (.string (strOfNums F1))))
      have q1 := HQT.out
      refine ⟨_, rfl, rfl, fun K hK => ?_⟩
      refine jY (w1 := w') (v := .bool t) (by rfl) rfl ?_ (hK _ _ (by exact rfl) (Below.refl _ _))
      · go_simp
        (try simp only [iW, kC])
        (try rfl)
        (try (unfold Go.RowKit.wrap64; omega))
    refine kZ ?_ ?_
    · intro a w' vs hB hel hd
      have e13 : a.tmps[13]? = some (.pointer (some ⟨w4.heap.size, 0, none⟩)) := (hel 13 (by kernel_rfl)).trans (by rfl)
      obtain ⟨xz0, xz1, xz2, xz3, xz4, xz5, xz6, xz7, xz8, xz9, xy0, xy1, xy2, xy3, xy4, xy5, xy6, xy7, xy8, xy9⟩ := ten (iP hB HP7.out)
      refine ⟨_, rfl, rfl, fun K hK => ?_⟩
      refine jY (w1 := w') (v := .agg #[.int .u8 X.f0, .int .u32 X.f1, .int .u32 X.f2, .slice C3 X.f3.length c3, .slice C4 X.f4.length c4, .int .u32 X.f5.f0, .slice C6 X.f5.f1.length c6, .int .i64 X.f6, .int .i64 X.f7, .slice C9 X.f8.length c9]) (by rfl) rfl ?_ (hK _ _ (by exact rfl) (Below.refl _ _))
      · go_simp
        (try simp only [iW, kC])
        (try rfl)
        (try (unfold Go.RowKit.wrap64; omega))
    refine kZ ?_ ?_
    · intro a w' vs hB hel hd
      have e14 : a.tmps[14]? = some (.pointer (some ⟨w5.heap.size, 0, none⟩)) := (hel 14 (by kernel_rfl)).trans (by rfl)
      obtain ⟨xz0, xz1, xz2, xz3, xz4, xz5, xz6, xz7, xz8, xz9, xy0, xy1, xy2, xy3, xy4, xy5, xy6, xy7, xy8, xy9⟩ := ten (iP hB HQ7.out)
      refine ⟨_, rfl, rfl, fun K hK => ?_⟩
      refine jY (w1 := w') (v := .agg #[.int .u8 Y.f0, .int .u32 Y.f1, .int .u32 Y.f2, .slice D3 Y.f3.length d3, .slice D4 Y.f4.length d4, .int .u32 Y.f5.f0, .slice D6 Y.f5.f1.length d6, .int .i64 Y.f6, .int .i64 Y.f7, .slice D9 Y.f8.length d9]) (by rfl) rfl ?_ (hK _ _ (by exact rfl) (Below.refl _ _))
      · go_simp
        (try simp only [iW, kC])
        (try rfl)
        (try (unfold Go.RowKit.wrap64; omega))
    refine kZ ?_ ?_
    · intro a w' vs hB hel hd
      obtain ⟨f81, r81⟩ := hd 5 (by kernel_rfl)
      have e81 : a.tmps[81]? = some (.agg #[.int .u8 X.f0, .int .u32 X.f1, .int .u32 X.f2, .slice C3 X.f3.length c3, .slice C4 X.f4.length c4, .int .u32 X.f5.f0, .slice C6 X.f5.f1.length c6, .int .i64 X.f6, .int .i64 X.f7, .slice C9 X.f8.length c9]) := f81.trans (congrArg some (r81 : vs 5 = (.agg #[.int .u8 X.f0, .int .u32 X.f1, .int .u32 X.f2, .slice C3 X.f3.length c3, .slice C4 X.f4.length c4, .int .u32 X.f5.f0, .slice C6 X.f5.f1.length c6, .int .i64 X.f6, .int .i64 X.f7, .slice C9 X.f8.length c9])))
      obtain ⟨f82, r82⟩ := hd 6 (by kernel_rfl)
      have e82 : a.tmps[82]? = some (.agg #[.int .u8 Y.f0, .int .u32 Y.f1, .int .u32 Y.f2, .slice D3 Y.f3.length d3, .slice D4 Y.f4.length d4, .int .u32 Y.f5.f0, .slice D6 Y.f5.f1.length d6, .int .i64 Y.f6, .int .i64 Y.f7, .slice D9 Y.f8.length d9]) := f82.trans (congrArg some (r82 : vs 6 = (.agg #[.int .u8 Y.f0, .int .u32 Y.f1, .int .u32 Y.f2, .slice D3 Y.f3.length d3, .slice D4 Y.f4.length d4, .int .u32 Y.f5.f0, .slice D6 Y.f5.f1.length d6, .int .i64 Y.f6, .int .i64 Y.f7, .slice D9 Y.f8.length d9])))
      refine ⟨_, rfl, rfl, fun K hK => ?_⟩
      refine rC Tryd.func45 (by kernel_rfl) rfl #[.agg #[.int .u8 X.f0, .int .u32 X.f1, .int .u32 X.f2, .slice C3 X.f3.length c3, .slice C4 X.f4.length c4, .int .u32 X.f5.f0, .slice C6 X.f5.f1.length c6, .int .i64 X.f6, .int .i64 X.f7, .slice C9 X.f8.length c9], .agg #[.int .u8 Y.f0, .int .u32 Y.f1, .int .u32 Y.f2, .slice D3 Y.f3.length d3, .slice D4 Y.f4.length d4, .int .u32 Y.f5.f0, .slice D6 Y.f5.f1.length d6, .int .i64 Y.f6, .int .i64 Y.f7, .slice D9 Y.f8.length d9]] (by rfl) rfl rfl (by first | (simp only [List.map_toArray, List.map_cons, List.map_nil, Act.eval, Array.getD_eq_getD_getElem?, Option.getD_some, e81, e82]; done) | (simp only [List.map_toArray, List.map_cons, List.map_nil, Act.eval, Array.getD_eq_getD_getElem?, Option.getD_some, e81, e82]; rfl)) ?_
      refine (OJ (LX7.out.below hB) (LY7.out.below hB) HSM.out).mono ?_
      rintro e_ w2_ ⟨rfl, hb2_⟩
      exact ⟨_, rfl, hK _ _ (by exact rfl) hb2_⟩
    refine kZ ?_ ?_
    · intro a w' vs hB hel hd
      obtain ⟨f80, r80⟩ := hd 4 (by kernel_rfl)
      have e80 : a.tmps[80]? = some (.bool t) := f80.trans (congrArg some (r80 : vs 4 = (.bool t)))
      obtain ⟨f83, r83⟩ := hd 7 (by kernel_rfl)
      have e83 : a.tmps[83]? = some (.bool t) := f83.trans (congrArg some (r83 : vs 7 = (.bool t)))
      refine ⟨_, rfl, rfl, fun K hK => ?_⟩
      refine jY (w1 := w') (v := .bool true) (by rfl) rfl ?_ (hK _ _ (by exact rfl) (Below.refl _ _))
      · go_simp
        (try simp only [iW, kC])
        (try rfl)
        (try (unfold Go.RowKit.wrap64; omega))
    refine kZ ?_ ?_
    · intro a w' vs hB hel hd
      obtain ⟨f84, r84⟩ := hd 8 (by kernel_rfl)
      have e84 : a.tmps[84]? = some (.bool true) := f84.trans (congrArg some (r84 : vs 8 = (.bool true)))
      refine ⟨_, rfl, rfl, fun K hK => ?_⟩
      refine jY (w1 := w') (v := .bool true) (by rfl) rfl ?_ (hK _ _ (by exact rfl) (Below.refl _ _))
      · go_simp
        (try simp only [iW, kC])
        (try rfl)
        (try (unfold Go.RowKit.wrap64; omega))
    exact NV
  · intro vs w' hB hR
    have hv0_ : vs 0 = (.slice Aa E1.length ca) := hR 0 (by kernel_rfl)
    have hv1_ : vs 1 = (.string (strOfNums E1)) := hR 1 (by kernel_rfl)
    have hv2_ : vs 2 = (.slice Ab F1.length cb) := hR 2 (by kernel_rfl)
    have hv3_ : vs 3 = (.string (strOfNums F1)) := hR 3 (by kernel_rfl)
    have hv4_ : vs 4 = (.bool t) := hR 4 (by kernel_rfl)
    have hv5_ : vs 5 = (.agg #[.int .u8 X.f0, .int .u32 X.f1, .int .u32 X.f2, .slice C3 X.f3.length c3, .slice C4 X.f4.length c4, .int .u32 X.f5.f0, .slice C6 X.f5.f1.length c6, .int .i64 X.f6, .int .i64 X.f7, .slice C9 X.f8.length c9]) := hR 5 (by kernel_rfl)
    have hv6_ : vs 6 = (.agg #[.int .u8 Y.f0, .int .u32 Y.f1, .int .u32 Y.f2, .slice D3 Y.f3.length d3, .slice D4 Y.f4.length d4, .int .u32 Y.f5.f0, .slice D6 Y.f5.f1.length d6, .int .i64 Y.f6, .int .i64 Y.f7, .slice D9 Y.f8.length d9]) := hR 6 (by kernel_rfl)
    have hv7_ : vs 7 = (.bool t) := hR 7 (by kernel_rfl)
    have hv8_ : vs 8 = (.bool true) := hR 8 (by kernel_rfl)
    have hv9_ : vs 9 = (.bool true) := hR 9 (by kernel_rfl)
    rw [show entries [76, 77, 78, 79, 80, 81, 82, 83, 84, 12] vs = [(0, 76, vs 0), (1, 77, vs 1), (2, 78, vs 2), (3, 79, vs 3), (4, 80, vs 4), (5, 81, vs 5), (6, 82, vs 6), (7, 83, vs 7), (8, 84, vs 8), (9, 12, vs 9)] from rfl]
    simp only [jX, if_true, Act.put, List.setIfInBounds_toArray, List.set_cons_zero, List.set_cons_succ, hv0_, hv1_, hv2_, hv3_, hv4_, hv5_, hv6_, hv7_, hv8_, hv9_]
    clear hR hv0_ hv1_ hv2_ hv3_ hv4_ hv5_ hv6_ hv7_ hv8_ hv9_
    go_wp2
    go_ret
    exact ⟨rfl, iL HB7.out hB⟩
theorem Q7 {α : Type} {a : Array α} {l : List α} (h : a.toList = l) : a = l.toArray := by rw [← h]
theorem codeApart_walk (r : SRec) (cs : Array Value) (s : SRec) (ds : Array Value) (a b n m : Int) (W : World) (hr : UB W r cs.toList) (wr : RecW r) (hs : UB W s ds.toList) (ws : RecW s) (ha : 0 ≤ a ∧ a < 256) (hb : 0 ≤ b ∧ b < 256) (_ : 0 ≤ n ∧ n < 256) (_ : 0 ≤ m ∧ m < 256) :
    Calls Tryd.prog 13 #[.agg cs, .agg ds, .int .u8 a, .int .u8 b, .int .u8 n, .int .u8 m] W fun e w' => e = .returned (.bool true) ∧ Below W.heap.size W w' := by
  obtain ⟨A3, a3, A4, a4, A6, a6, A9, a9, e, h3, d3, h4, d4, h6, d6, h9, d9⟩ := hr
  obtain rfl := Q7 e
  obtain ⟨B3, b3, B4, b4, B6, b6, B9, b9, e', g3, q3, g4, q4, g6, q6, g9, q9⟩ := hs
  obtain rfl := Q7 e'
  have hsX := yU a r.f1 r.f2 n r.f4 [] 1 2 r.f8 ha.1 (fun v hv => by cases hv) ⟨by decide, by decide⟩ ⟨by decide, by decide⟩ (fun e he => (wr.n9 e he).1.1)
  have hsY := yU b s.f1 s.f2 m s.f4 [] 1 2 s.f8 hb.1 (fun v hv => by cases hv) ⟨by decide, by decide⟩ ⟨by decide, by decide⟩ (fun e he => (ws.n9 e he).1.1)
  have okX := P5 a r.f1 r.f2 n r.f4 [] 1 2 r.f8 wr.ok.id wr.ok.at_ wr.n4 wr.n9
  have okY := P5 b s.f1 s.f2 m s.f4 [] 1 2 s.f8 ws.ok.id ws.ok.at_ ws.n4 ws.n9
  obtain ⟨t, ht, hi⟩ := UK _ _ (yT _ hsX) (yT _ hsY)
  have hd : decide (recE (vC a r.f1 r.f2 n r.f4 [] 1 2 r.f8) = recE (vC b s.f1 s.f2 m s.f4 [] 1 2 s.f8)) = t := by
    have hii := hi.trans (same_iff _ _ hsX okX hsY okY)
    cases t with
    | true => exact decide_eq_true (hii.1 rfl)
    | false => exact decide_eq_false (fun h => by cases hii.2 h)
  exact zS r s A3 a3 A4 a4 A6 a6 A9 a9 B3 b3 B4 b4 B6 b6 B9 b9 a b n m W ⟨h3, d3, h4, d4, h6, d6, h9, d9⟩ ⟨g3, q3, g4, q4, g6, q6, g9, q9⟩ _ _ rfl rfl hsX hsY (fun e he => ((JC h3 h4 h6 h9).f9 e he).1) (fun e he => ((JC g3 g4 g6 g9).f9 e he).1) t hd ht.rounds
end Go.Proofs.YtbbhjceelghadaaDoor.K
end
