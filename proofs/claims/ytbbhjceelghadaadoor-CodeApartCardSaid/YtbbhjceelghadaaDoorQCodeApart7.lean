/- Parts of the proof, one behind the other: LawF. -/
import Derived.Test.YtbbhjceelghadaaDoorQCodeApart6
set_option linter.unusedVariables false
set_option linter.unusedSimpArgs false
section
namespace Go.Proofs.YtbbhjceelghadaaDoor.K
open Go.RowKit Go.Proofs.YtbbhjceelghadaaDoorW.PrintWords Go.Proofs.YtbbhjceelghadaaDoorW.PrintLast Go.Proofs.YtbbhjceelghadaaDoorW.PrintMore
attribute [local go_sem] kJ kF kV kU jS jU kD kE
theorem TE : (Tryd.prog.info? 76).map (fun i => (i.zero, i.size, i.bytes)) = some (some (.agg #[(.slice none 0 0), (.int .i64 0)]), 2, 32) := by kernel_rfl
mutual
def stratumlaw07_Facts.l0 : Nat → List (S76) → List (S76) → Int → Option ((List (S76)))
  | 0, _, _, _ => none
  | k + 1, x0, x3, x4 => if x4 < (x0.length : Int) then (stratumlaw07_Facts.j1 k x0 x3 x4 (decide (x4 < 60))) else (stratumlaw07_Facts.j1 k x0 x3 x4 false)
def stratumlaw07_Facts.j1 : Nat → List (S76) → List (S76) → Int → Bool → Option ((List (S76)))
  | 0, _, _, _, _ => none
  | k + 1, x0, x3, x4, x14 => if x14 = true then (if 0 ≤ x4 then (if x4 < (x0.length : Int) then (stratumlaw07_Facts.l1 k x0 x3 x4 0 ([] : List Int) ((iY x0 x4).f1)) else (none)) else (none)) else (some x3)
def stratumlaw07_Facts.l1 : Nat → List (S76) → List (S76) → Int → Int → List Int → Int → Option ((List (S76)))
  | 0, _, _, _, _, _, _ => none
  | k + 1, x0, x3, x4, x6, x114000, x114001 => if 0 ≤ x4 then (if x4 < (x0.length : Int) then (if x6 < (((iY x0 x4).f0).length : Int) then (if x6 < 4 then (if 0 ≤ x6 then (if x114000.length < 17592186044416 then (stratumlaw07_Facts.l1 k x0 x3 x4 (wrap64 (x6 + 1)) (x114000 ++ [(mx (rd ((iY x0 x4).f0) x6) 0) % 10000]) x114001) else (none)) else (none)) else (if x3.length < 4398046511104 then (stratumlaw07_Facts.l0 k x0 (x3 ++ [(⟨x114000, x114001⟩ : S76)]) (wrap64 (x4 + 1))) else (none))) else (if x3.length < 4398046511104 then (stratumlaw07_Facts.l0 k x0 (x3 ++ [(⟨x114000, x114001⟩ : S76)]) (wrap64 (x4 + 1))) else (none))) else (none)) else (none)
end
def stratumlaw07_Facts.f (k : Nat) (l0 : List (S76)) : Option ((List (S76))) := stratumlaw07_Facts.l0 k l0 ([] : List (S76)) 0
theorem stratumlaw07_Facts.mono_l : ∀ k, (∀ y0 y1 y2, LeO (stratumlaw07_Facts.l0 k y0 y1 y2) (stratumlaw07_Facts.l0 (k + 1) y0 y1 y2)) ∧ (∀ y0 y1 y2 y3, LeO (stratumlaw07_Facts.j1 k y0 y1 y2 y3) (stratumlaw07_Facts.j1 (k + 1) y0 y1 y2 y3)) ∧ (∀ y0 y1 y2 y3 y4 y5, LeO (stratumlaw07_Facts.l1 k y0 y1 y2 y3 y4 y5) (stratumlaw07_Facts.l1 (k + 1) y0 y1 y2 y3 y4 y5))
  | 0 => ⟨fun _ _ _ r h => by simp [stratumlaw07_Facts.l0] at h, fun _ _ _ _ r h => by simp [stratumlaw07_Facts.j1] at h, fun _ _ _ _ _ _ r h => by simp [stratumlaw07_Facts.l1] at h⟩
  | k + 1 => by
    obtain ⟨ih0, ih1, ih2⟩ := stratumlaw07_Facts.mono_l k
    refine ⟨?_, ?_, ?_⟩
    · intro y0 y1 y2
      unfold stratumlaw07_Facts.l0
      repeat' first
      | (with_reducible exact ih0 _ _ _)
      | (with_reducible exact ih1 _ _ _ _)
      | (with_reducible exact ih2 _ _ _ _ _ _)
      | (with_reducible exact LeO.refl _)
      | (with_reducible exact LeO.none _)
      | (with_reducible refine LeO.ite ?_ ?_)
      | (with_reducible refine LeO.bind ?_ (fun _ => ?_))
      | exact ih0 _ _ _
      | exact ih1 _ _ _ _
      | exact ih2 _ _ _ _ _ _
      | exact LeO.none _
      | refine LeO.ite ?_ ?_
      | refine LeO.bind ?_ (fun _ => ?_)
    · intro y0 y1 y2 y3
      unfold stratumlaw07_Facts.j1
      repeat' first
      | (with_reducible exact ih0 _ _ _)
      | (with_reducible exact ih1 _ _ _ _)
      | (with_reducible exact ih2 _ _ _ _ _ _)
      | (with_reducible exact LeO.refl _)
      | (with_reducible exact LeO.none _)
      | (with_reducible refine LeO.ite ?_ ?_)
      | (with_reducible refine LeO.bind ?_ (fun _ => ?_))
      | exact ih0 _ _ _
      | exact ih1 _ _ _ _
      | exact ih2 _ _ _ _ _ _
      | exact LeO.none _
      | refine LeO.ite ?_ ?_
      | refine LeO.bind ?_ (fun _ => ?_)
    · intro y0 y1 y2 y3 y4 y5
      unfold stratumlaw07_Facts.l1
      repeat' first
      | (with_reducible exact ih0 _ _ _)
      | (with_reducible exact ih1 _ _ _ _)
      | (with_reducible exact ih2 _ _ _ _ _ _)
      | (with_reducible exact LeO.refl _)
      | (with_reducible exact LeO.none _)
      | (with_reducible refine LeO.ite ?_ ?_)
      | (with_reducible refine LeO.bind ?_ (fun _ => ?_))
      | exact ih0 _ _ _
      | exact ih1 _ _ _ _
      | exact ih2 _ _ _ _ _ _
      | exact LeO.none _
      | refine LeO.ite ?_ ?_
      | refine LeO.bind ?_ (fun _ => ?_)
theorem stratumlaw07_Facts.mono : ∀ a0 k, LeO (stratumlaw07_Facts.f k a0) (stratumlaw07_Facts.f (k + 1) a0) := by
  intro a0 k
  obtain ⟨ih0, ih1, ih2⟩ := stratumlaw07_Facts.mono_l k
  unfold stratumlaw07_Facts.f
  repeat' first
      | (with_reducible exact ih0 _ _ _)
      | (with_reducible exact ih1 _ _ _ _)
      | (with_reducible exact ih2 _ _ _ _ _ _)
      | (with_reducible exact LeO.refl _)
      | (with_reducible exact LeO.none _)
      | (with_reducible refine LeO.ite ?_ ?_)
      | (with_reducible refine LeO.bind ?_ (fun _ => ?_))
      | exact ih0 _ _ _
      | exact ih1 _ _ _ _
      | exact ih2 _ _ _ _ _ _
      | exact LeO.none _
      | refine LeO.ite ?_ ?_
      | refine LeO.bind ?_ (fun _ => ?_)
def stratumlaw07_Facts.T9 : Bool × List (List Nat × List Nat) := (true, [([], []), ([0], [0]), ([], []), ([], []), ([2, 3], [2, 3]), ([4], [4]), ([5], [5]), ([], []), ([6, 7], [6, 7]), ([8], [8]), ([9], [9]), ([10], [10]), ([11], [11]), ([1, 12], [1, 12]), ([0, 1, 2, 3, 4, 5, 6, 7, 8, 9, 10, 11, 12, 13], []), ([14, 13, 13, 0, 1, 2, 3, 4, 5, 6, 7, 8, 9, 10, 11, 12, 13], [13, 14])])
def stratumlaw07_Facts.B9 : List Nat := [0, 1, 0, 0, 12, 28, 60, 0, 252, 508, 1020, 2044, 4092, 8191, 16383, 32767]
theorem stratumlaw07_Facts.tab9 : rtab .any (opsOf Tryd.f102 9) = stratumlaw07_Facts.T9 := by kernel_rfl
theorem stratumlaw07_Facts.bits9 : lU stratumlaw07_Facts.T9.2 stratumlaw07_Facts.B9 = true := by kernel_rfl
set_option maxHeartbeats 8000000 in
set_option maxRecDepth 100000 in
theorem stratumlaw07_Facts.callsS (k : Nat) (A0 : Option Addr) (c0 : Nat) (l0 : List (S76)) (r : List (S76)) (w : World) (hr0 : Kd.C k76 w A0 l0.length l0) (hc0 : l0.length ≤ c0) (h : stratumlaw07_Facts.f k l0 = some r) :
    Calls Tryd.prog 102 #[.slice A0 l0.length c0] w fun e w' => ∃ v0_ : Value, e = .returned (v0_) ∧ Kd.S k76 76 w' w.heap.size (fun _ => True) v0_ r ∧ Below w.heap.size w w' := by
  have hu76 := Tryd.underlying76
  have HR0 := iE.mk hr0
  have HC0 := iE.mk hc0
  clear hr0 hc0
  have HB := iE.mk (Below.refl w.heap.size w)
  have H : (stratumlaw07_Facts.l0 k l0 ([] : List (S76)) 0) = some r := h
  clear h
  have H' := iE.mk H
  clear H
  go_enter Tryd.func102, Tryd.ntmps102
  go_wp2
  go_loopg [3, 4] k (fun kq v3 v4 w' => ∃ (x3_1 : List (S76)) (x4_1 : Int), v4 = .int .i64 x4_1 ∧ iE (stratumlaw07_Facts.l0 kq l0 x3_1 x4_1 = some r) ∧ iE (kq ≤ k) ∧ iE (Kd.S k76 76 w' w.heap.size (fun _ => True) v3 x3_1) ∧ iE (Below w.heap.size w w'))
  case atStart => exact ⟨(([] : List (S76))), (0), (by first | rfl | (simp; done) | (simp [*]; done)), H', ⟨Nat.le_refl _⟩, ⟨by first | exact Kd.S_nil _ _ _ _ _ | exact Kd.N_nil _ _ _ _ _ | exact Kd.V_nil _ _ _ _ _ | exact Kd.Q_nil _ _ _ _ _ | exact Kd.R_nil _ _ _ _ _⟩, ⟨hb_⟩⟩
  case round =>
    clear H'
    try clear c1
    obtain ⟨x3_1, x4_1, rfl, HA, HK1, HO_3, HB⟩ := hrel
    cases gk with
    | zero => exact absurd HA.out (by simp [stratumlaw07_Facts.l0])
    | succ k1 =>
      have H := HA.out
      clear HA
      simp only [stratumlaw07_Facts.l0] at H
      have HC2 := iE.mk H
      clear H
      go_upto_region 3 with (fail)
      go_cut [14] (fun v14 wc => ∃ (kq : Nat) (x14_1 : Bool), v14 = .bool x14_1 ∧ iE (stratumlaw07_Facts.j1 kq l0 x3_1 x4_1 x14_1 = some r) ∧ iE (kq ≤ k1) ∧ iE (Kd.S k76 76 wc w.heap.size (fun _ => True) u3 x3_1) ∧ iE (Below w.heap.size w wc))
      case first =>
        have H := HC2.out
        clear HC2
        by_cases c3 : x4_1 < (l0.length : Int)
        · rw [if_pos c3] at H
          have c3b0 : decide (x4_1 < (l0.length : Int)) = true := decide_eq_true c3
          clear c3
          (first | rw [c3b0] | (simp only [iW, jD]; rw [c3b0]) | skip)
          have H' := iE.mk H
          clear H
          go_wp2
          go_meet
          case rel => exact ⟨_, (decide (x4_1 < 60)), (by first | rfl | (simp; done) | (simp [*]; done)), H', ⟨by have := HK1.out; first | omega | exact Nat.le_refl _⟩, ⟨by (with_reducible repeat (first | apply Kd.S_alloc | apply Kd.S_drewN | apply Kd.S_drew)); exact HO_3.out⟩, ⟨hb_⟩⟩
        · rw [if_neg c3] at H
          have c3b0 : decide (x4_1 < (l0.length : Int)) = false := decide_eq_false c3
          clear c3
          (first | rw [c3b0] | (simp only [iW, jD]; rw [c3b0]) | skip)
          have H' := iE.mk H
          clear H
          go_wp2
          go_meet
          case rel => exact ⟨_, (false), (by first | rfl | (simp; done) | (simp [*]; done)), H', ⟨by have := HK1.out; first | omega | exact Nat.le_refl _⟩, ⟨by (with_reducible repeat (first | apply Kd.S_alloc | apply Kd.S_drewN | apply Kd.S_drew)); exact HO_3.out⟩, ⟨hb_⟩⟩
      case rest =>
        clear HC2
        try clear c1
        try clear p2
        try clear c3
        try clear c3b0
        obtain ⟨kq, x14_1, rfl, HA, HJ1, HO_3, HB⟩ := hcut
        cases kq with
        | zero => exact absurd HA.out (by simp [stratumlaw07_Facts.j1])
        | succ kj1 =>
          have H := HA.out
          clear HA
          simp only [stratumlaw07_Facts.j1] at H
          by_cases c4 : x14_1 = true
          · subst c4
            have H1 : (if 0 ≤ x4_1 then (if x4_1 < (l0.length : Int) then (stratumlaw07_Facts.l1 kj1 l0 x3_1 x4_1 0 ([] : List Int) ((iY l0 x4_1).f1)) else (none)) else (none)) = some r := by rw [if_pos rfl] at H; exact H
            clear H
            have H := H1
            clear H1
            by_cases c5 : 0 ≤ x4_1
            · rw [if_pos c5] at H
              have c5b0 : decide (0 ≤ x4_1) = true := decide_eq_true c5
              clear c5
              by_cases c6 : x4_1 < (l0.length : Int)
              · rw [if_pos c6] at H
                have c6b0 : decide (x4_1 < (l0.length : Int)) = true := decide_eq_true c6
                clear c6
                have H' := iE.mk H
                clear H
                have p112 : 0 ≤ (x4_1 : Int) := of_decide_eq_true asm_
                have q112 : x4_1 < (l0.length : Int) := of_decide_eq_true asm_
                obtain ⟨ad112, A112_0, c112_0, e112, hx112_0, hx112_1, hl112_0, hi112_0⟩ := lH HR0.out x4_1 p112 q112
                cases e112
                replace hx112_0 := (HB.out.cell (World.block_lt_of_cell? w _ hx112_0)).trans hx112_0
                replace hx112_1 := (HB.out.cell (World.block_lt_of_cell? w _ hx112_1)).trans hx112_1
                have HR112_0 := iE.mk hi112_0
                have HC112_0 := iE.mk hl112_0
                clear hi112_0 hl112_0
                replace p112 := eq_true p112
                replace q112 := eq_true q112
                go_wp2_with (first | ((with_reducible refine jM (N := 5) rfl ?_); refine jJ ?hg (N := 5) ?hd (cs := #[.slice none 0 0, .int .i64 0]) (t := 76) ?hr ?_; (case hd => rfl); (case hg => rfl); (case hr => first | (go_simp; done) | (go_simp; rfl)); intro gb113 hg w7 hbox hb; have n0_ := iE.mk (Kd.S_below (Kd.S_elderB (by (with_reducible repeat (first | apply Kd.S_alloc | apply Kd.S_drewN | apply Kd.S_drew)); exact HO_3.out) gb113 (Nat.le_of_eq hg.symm)) hb); have n1_ := iE.mk (iL hb_ hb); have n2_ := iE.mk (hbox); have n3_ := iE.mk ((by rw [hg]; exact (iT hb_) : w.heap.size ≤ gb113)); have n4_ := iE.mk ((by rw [hg]; exact (iT hb_) : w.heap.size ≤ gb113)); clear HO_3; clear HB; have HO_3 := n0_; have HB := n1_; have BK113 := n2_; have GW113 := n3_; have GE113 := n4_; clear n0_ n1_ n2_ n3_ n4_; clear hb hbox hg; have hcz8_0 : w7.cell? ⟨gb113, 0, none⟩ = some (.slice none 0 0) := (iD BK113.out 0).trans rfl; have hcz8_1 : w7.cell? ⟨gb113, 1, none⟩ = some (.int .i64 0) := (iD BK113.out 1).trans rfl; have hfz8_0 := iC BK113.out 0; have hfz8_1 := iC BK113.out 1))
                go_loopg [6] kj1 (fun kq v6 w' => ∃ (x6_3 : Int) (x114000_3 : List Int) (u114000 : Value), v6 = .int .i64 x6_3 ∧ iE (stratumlaw07_Facts.l1 kq l0 x3_1 x4_1 x6_3 x114000_3 ((iY l0 x4_1).f1) = some r) ∧ iE (kq ≤ kj1) ∧ iE (Kd.S k76 76 w' w.heap.size (fun k_ => some k_ ≠ (u114000 : Value).ownBlock ∧ k_ ≠ gb113) u3 x3_1) ∧ iE (Kd.R (Kd.int .i64) 3 w' w.heap.size (fun _ => True) u114000 x114000_3) ∧ iE (w'.heap[gb113]? = some (.cells #[u114000, .int .i64 ((iY l0 x4_1).f1)] 76 (0, 0))) ∧ iE (Below w.heap.size w w'))
                case atStart => exact ⟨(0), (([] : List Int)), (.slice none 0 0), (by first | rfl | (simp; done) | (simp [*]; done)), H', ⟨Nat.le_refl _⟩, ⟨by (with_reducible repeat (first | apply Kd.S_alloc | apply Kd.S_drewN | apply Kd.S_drew)); exact Kd.S_mono (Kd.S_far (p := ⟨gb113, 1, none⟩) (Kd.S_far (p := ⟨gb113, 0, none⟩) (Kd.S_mono HO_3.out (fun k_ hk => (⟨hk, hk.2⟩ : _ ∧ k_ ≠ gb113))) (fun _ hk => hk.2) (.slice none 0 0)) (fun _ hk => hk.2) (.int .i64 ((iY l0 x4_1).f1))) (fun _ hk => ⟨(by simp [Value.ownBlock]), hk.1.2⟩)⟩, ⟨by first | exact Kd.R_nil _ _ _ _ _ | exact Kd.N_nil _ _ _ _ _ | exact Kd.V_nil _ _ _ _ _ | exact Kd.Q_nil _ _ _ _ _ | exact Kd.S_nil _ _ _ _ _⟩, ⟨by (with_reducible repeat (first | refine iK ?_ _ | refine iM ?_ | refine iJ ?_ _)); refine iV (cs := #[.slice none 0 0, .int .i64 0]) ?_ 1 _ rfl; (with_reducible repeat (first | refine iK ?_ _ | refine iM ?_ | refine iJ ?_ _)); refine iV (cs := #[.slice none 0 0, .int .i64 0]) ?_ 0 _ rfl; (with_reducible repeat (first | refine iK ?_ _ | refine iM ?_ | refine iJ ?_ _)); exact BK113.out⟩, ⟨by repeat (first | (with_reducible first | exact HB.out | apply iG | apply iF | apply iH | refine iI ?_ GE113.out) | exact HB.out)⟩⟩
                case round =>
                  clear H'
                  try clear c1
                  try clear p1
                  try clear q1
                  try clear hx1
                  try clear p2
                  try clear c3
                  try clear c3b0
                  try clear c4
                  try clear c5
                  try clear c5b0
                  try clear c6
                  try clear c6b0
                  try clear hcz8_0
                  try clear hcz8_1
                  try clear hfz8_0
                  try clear hfz8_1
                  try clear hx112_0
                  try clear hx112_1
                  try clear p112
                  try clear p2
                  try clear q112
                  obtain ⟨x6_3, x114000_3, u114000, rfl, HA, HK3, HO_3, HO_114000, BK113, HB⟩ := hrel
                  cases gk with
                  | zero => exact absurd HA.out (by simp [stratumlaw07_Facts.l1])
                  | succ k3 =>
                    have H := HA.out
                    clear HA
                    simp only [stratumlaw07_Facts.l1] at H
                    by_cases c9 : 0 ≤ x4_1
                    · rw [if_pos c9] at H
                      have c9b0 : decide (0 ≤ x4_1) = true := decide_eq_true c9
                      clear c9
                      by_cases c10 : x4_1 < (l0.length : Int)
                      · rw [if_pos c10] at H
                        have c10b0 : decide (x4_1 < (l0.length : Int)) = true := decide_eq_true c10
                        clear c10
                        by_cases c11 : x6_3 < (((iY l0 x4_1).f0).length : Int)
                        · rw [if_pos c11] at H
                          have c11b0 : decide (x6_3 < (((iY l0 x4_1).f0).length : Int)) = true := decide_eq_true c11
                          clear c11
                          by_cases c12 : x6_3 < 4
                          · rw [if_pos c12] at H
                            have c12b0 : decide (x6_3 < 4) = true := decide_eq_true c12
                            clear c12
                            by_cases c13 : 0 ≤ x6_3
                            · rw [if_pos c13] at H
                              have c13b0 : decide (0 ≤ x6_3) = true := decide_eq_true c13
                              clear c13
                              obtain ⟨ji14, hji14⟩ : ∃ j_ : Int, (mx (rd ((iY l0 x4_1).f0) x6_3) 0) = j_ := ⟨_, rfl⟩
                              replace H : (if x114000_3.length < 17592186044416 then (stratumlaw07_Facts.l1 k3 l0 x3_1 x4_1 (wrap64 (x6_3 + 1)) (x114000_3 ++ [(ji14) % 10000]) ((iY l0 x4_1).f1)) else (none)) = some r := by first | (rw [hji14] at H; exact H) | (simp only [hji14] at H ⊢; exact H)
                              have hji14_ : (if (rd ((iY l0 x4_1).f0) x6_3) < 0 then 0 else (rd ((iY l0 x4_1).f0) x6_3)) = ji14 := hji14
                              have hpos_ : 0 ≤ ji14 := by rw [← hji14_]; split <;> omega
                              have hmod_ : ji14.tmod 10000 = ji14 % 10000 := Int.tmod_eq_emod_of_nonneg hpos_
                              by_cases c15 : x114000_3.length < 17592186044416
                              · rw [if_pos c15] at H
                                have LMc15 := iE.mk c15
                                clear c15
                                obtain ⟨y117, hy117⟩ : ∃ y_ : List Int, y_ = (x114000_3 ++ [(ji14) % 10000]) := ⟨_, rfl⟩
                                replace H : (stratumlaw07_Facts.l1 k3 l0 x3_1 x4_1 (wrap64 (x6_3 + 1)) y117 ((iY l0 x4_1).f1)) = some r := by first | (rw [hy117]; with_reducible exact H) | (have H2_ := (Option.bind_some _ _).symm.trans H; rw [hy117]; with_reducible exact H2_) | (have H2_ := (Option.bind_some _ _).symm.trans H; with_reducible exact H2_) | with_reducible exact H | (rw [hy117]; exact H) | exact H
                                have Ny117 := iE.mk hy117
                                clear hy117
                                have H' := iE.mk H
                                clear H
                                have p114 : 0 ≤ (x4_1 : Int) := of_decide_eq_true asm_
                                have q114 : x4_1 < (l0.length : Int) := of_decide_eq_true asm_
                                obtain ⟨ad114, A114_0, c114_0, e114, hx114_0, hx114_1, hl114_0, hi114_0⟩ := lH HR0.out x4_1 p114 q114
                                obtain rfl : ad112 = ad114 := (by injection e114)
                                replace hx114_0 := (HB.out.cell (World.block_lt_of_cell? w _ hx114_0)).trans hx114_0
                                replace hx114_1 := (HB.out.cell (World.block_lt_of_cell? w _ hx114_1)).trans hx114_1
                                have HR114_0 := iE.mk hi114_0
                                have HC114_0 := iE.mk hl114_0
                                clear hi114_0 hl114_0
                                replace p114 := eq_true p114
                                replace q114 := eq_true q114
                                try go_wp2
                                have n0_ := iE.mk (Kd.S_drew HO_3.out)
                                have n1_ := iE.mk (Kd.R_drew HO_114000.out)
                                have n2_ := iE.mk (iM BK113.out)
                                have n3_ := iE.mk (iH HB.out)
                                clear HO_3
                                clear HO_114000
                                clear BK113
                                clear HB
                                have HO_3 := n0_
                                have HO_114000 := n1_
                                have BK113 := n2_
                                have HB := n3_
                                clear n0_ n1_ n2_ n3_
                                have p115 : 0 ≤ (x4_1 : Int) := of_decide_eq_true asm_
                                have q115 : x4_1 < (l0.length : Int) := of_decide_eq_true asm_
                                obtain ⟨ad115, A115_0, c115_0, e115, hx115_0, hx115_1, hl115_0, hi115_0⟩ := lH HR0.out x4_1 p115 q115
                                have hw115_1 := hx115_1
                                have hw115_0 := hx115_0
                                obtain rfl : ad112 = ad115 := (by injection e115)
                                replace hx115_0 := (HB.out.cell (World.block_lt_of_cell? w _ hx115_0)).trans hx115_0
                                replace hx115_1 := (HB.out.cell (World.block_lt_of_cell? w _ hx115_1)).trans hx115_1
                                have HR115_0 := iE.mk hi115_0
                                have HC115_0 := iE.mk hl115_0
                                clear hi115_0 hl115_0
                                replace p115 := eq_true p115
                                replace q115 := eq_true q115
                                have p116 : 0 ≤ (x6_3 : Int) := of_decide_eq_true asm_
                                have q116 : x6_3 < (((iY l0 x4_1).f0).length : Int) := of_decide_eq_true asm_
                                obtain ⟨ad116, e116, hx116_0⟩ := Kd.at_int HR115_0.out x6_3 p116 q116
                                have hw116_0 := hx116_0
                                cases e116
                                replace hx116_0 := (HB.out.cell (World.block_lt_of_cell? w _ hx116_0)).trans hx116_0
                                replace p116 := eq_true p116
                                replace q116 := eq_true q116
                                refine pR (n := 16) (S := fun w' => w'.cell? ⟨gb113, 0, none⟩ = some (u114000) ∧ w'.cell? ⟨gb113, 1, none⟩ = some (.int .i64 ((iY l0 x4_1).f1)) ∧ w'.cell? (ad112.add ((x4_1).toNat * 2)) = some (.slice (some ad116) ((iY l0 x4_1).f0).length c115_0) ∧ w'.cell? ⟨(ad112.add ((x4_1).toNat * 2)).block, (ad112.add ((x4_1).toNat * 2)).off + 1, none⟩ = some (.int .i64 ((iY l0 x4_1).f1)) ∧ w'.cell? (ad116.add (x6_3).toNat) = some (.int .i64 (rd ((iY l0 x4_1).f0) x6_3))) (ds := [15]) #[false, false, false, false, false, false, false, false, false, false, false, false, false, false, false, false] (by kernel_rfl) rfl rfl ⟨(iD BK113.out 0).trans rfl, (iD BK113.out 1).trans rfl, ((HB.out.cell (World.block_lt_of_cell? w _ hw115_0)).trans hw115_0), ((HB.out.cell (World.block_lt_of_cell? w _ hw115_1)).trans hw115_1), ((HB.out.cell (World.block_lt_of_cell? w _ hw116_0)).trans hw116_0)⟩ (fun hHeld => ?_); refine mO stratumlaw07_Facts.tab9 stratumlaw07_Facts.bits9 (fun HT_ HW_ => ?_)
                                generalize wr.drew = w16 at HO_3 HO_114000 BK113 HB HR115_0 hx115_0 hx115_1 hx116_0 hHeld ⊢
                                refine jI (i := 0) (N := some 37) (v := ?_) (a' := ?_) #[true, false, false, false, false, false, false, false, false, false, false, false, false, false, false, false] rfl rfl (jC HT_.out (by kernel_rfl)) (fun _ _ _ h => h) (Or.inl ⟨by rfl, ?_⟩) ?_ ?_
                                rotate_left
                                · intro w'
                                  go_simp
                                  with_reducible rfl
                                rotate_left
                                · simp only [Act.put, List.setIfInBounds_toArray, List.set_cons_zero, List.set_cons_succ, iW, jD]
                                  rfl
                                refine jI (i := 2) (N := some 39) (v := ?_) (a' := ?_) #[true, false, true, false, false, false, false, false, false, false, false, false, false, false, false, false] rfl rfl (jC HT_.out (by kernel_rfl)) (fun _ _ _ h => h) (Or.inl ⟨by rfl, ?_⟩) ?_ ?_
                                rotate_left
                                · intro w'
                                  go_simp
                                  with_reducible rfl
                                rotate_left
                                · simp only [Act.put, List.setIfInBounds_toArray, List.set_cons_zero, List.set_cons_succ, iW, jD]
                                  rfl
                                refine jI (i := 3) (N := some 40) (v := ?_) (a' := ?_) #[true, false, true, true, false, false, false, false, false, false, false, false, false, false, false, false] rfl rfl (jC HT_.out (by kernel_rfl)) (fun _ _ _ h => h) (Or.inl ⟨by rfl, ?_⟩) ?_ ?_
                                rotate_left
                                · intro w'
                                  go_simp
                                  with_reducible rfl
                                rotate_left
                                · simp only [Act.put, List.setIfInBounds_toArray, List.set_cons_zero, List.set_cons_succ, iW, jD]
                                  rfl
                                refine jI (i := 4) (N := some 41) (v := ?_) (a' := ?_) #[true, false, true, true, true, false, false, false, false, false, false, false, false, false, false, false] rfl rfl (jC HT_.out (by kernel_rfl)) (fun _ _ _ h => h) (Or.inl ⟨by rfl, ?_⟩) ?_ ?_
                                rotate_left
                                · intro w'
                                  go_simp
                                  with_reducible rfl
                                rotate_left
                                · simp only [Act.put, List.setIfInBounds_toArray, List.set_cons_zero, List.set_cons_succ, iW, jD]
                                  rfl
                                refine jI (i := 5) (N := some 42) (v := ?_) (a' := ?_) #[true, false, true, true, true, true, false, false, false, false, false, false, false, false, false, false] rfl rfl (jC HT_.out (by kernel_rfl)) (fun _ _ _ h => h) (Or.inl ⟨by rfl, ?_⟩) ?_ ?_
                                rotate_left
                                · intro w'
                                  go_simp
                                  with_reducible rfl
                                rotate_left
                                · simp only [Act.put, List.setIfInBounds_toArray, List.set_cons_zero, List.set_cons_succ, iW, jD]
                                  rfl
                                refine jI (i := 7) (N := some 44) (v := ?_) (a' := ?_) #[true, false, true, true, true, true, false, true, false, false, false, false, false, false, false, false] rfl rfl (jC HT_.out (by kernel_rfl)) (fun _ _ _ h => h) (Or.inl ⟨by rfl, ?_⟩) ?_ ?_
                                rotate_left
                                · intro w'
                                  go_simp
                                  with_reducible rfl
                                rotate_left
                                · simp only [Act.put, List.setIfInBounds_toArray, List.set_cons_zero, List.set_cons_succ, iW, jD]
                                  rfl
                                refine take_ (i := 1) (N := some 38) (v := ?_) (a' := ?_) #[true, true, true, true, true, true, false, true, false, false, false, false, false, false, false, false] rfl rfl (lC HT_.out HW_.out (by kernel_rfl)) (fun _ _ _ h => h) (Or.inl ⟨by rfl, ?_⟩) hHeld ?_ ?_
                                rotate_left
                                · rintro w' ⟨s0, s1, s2, s3, s4⟩
                                  go_simp
                                  with_reducible rfl
                                rotate_left
                                · simp only [Act.put, List.setIfInBounds_toArray, List.set_cons_zero, List.set_cons_succ, iW, jD]
                                  rfl
                                refine take_ (i := 6) (N := some 43) (v := ?_) (a' := ?_) #[true, true, true, true, true, true, true, true, false, false, false, false, false, false, false, false] rfl rfl (lC HT_.out HW_.out (by kernel_rfl)) (fun _ _ _ h => h) (Or.inl ⟨by rfl, ?_⟩) hHeld ?_ ?_
                                rotate_left
                                · rintro w' ⟨s0, s1, s2, s3, s4⟩
                                  go_simp
                                  with_reducible rfl
                                rotate_left
                                · simp only [Act.put, List.setIfInBounds_toArray, List.set_cons_zero, List.set_cons_succ, iW, jD]
                                  rfl
                                refine jI (i := 8) (N := some 45) (v := ?_) (a' := ?_) #[true, true, true, true, true, true, true, true, true, false, false, false, false, false, false, false] rfl rfl (jC HT_.out (by kernel_rfl)) (fun _ _ _ h => h) (Or.inl ⟨by rfl, ?_⟩) ?_ ?_
                                rotate_left
                                · intro w'
                                  go_simp
                                  with_reducible rfl
                                rotate_left
                                · simp only [Act.put, List.setIfInBounds_toArray, List.set_cons_zero, List.set_cons_succ, iW, jD]
                                  rfl
                                refine take_ (i := 9) (N := some 46) (v := ?_) (a' := ?_) #[true, true, true, true, true, true, true, true, true, true, false, false, false, false, false, false] rfl rfl (lC HT_.out HW_.out (by kernel_rfl)) (fun _ _ _ h => h) (Or.inl ⟨by rfl, ?_⟩) hHeld ?_ ?_
                                rotate_left
                                · rintro w' ⟨s0, s1, s2, s3, s4⟩
                                  go_simp
                                  with_reducible rfl
                                rotate_left
                                · simp only [Act.put, List.setIfInBounds_toArray, List.set_cons_zero, List.set_cons_succ, iW, jD]
                                  rfl
                                refine jI (i := 10) (N := some 47) (v := ?_) (a' := ?_) #[true, true, true, true, true, true, true, true, true, true, true, false, false, false, false, false] rfl rfl (jC HT_.out (by kernel_rfl)) (fun _ _ _ h => h) (Or.inl ⟨by rfl, ?_⟩) ?_ ?_
                                rotate_left
                                · intro w'
                                  go_simp
                                  with_reducible rfl
                                rotate_left
                                · simp only [Act.put, List.setIfInBounds_toArray, List.set_cons_zero, List.set_cons_succ, iW, jD]
                                  rfl
                                refine jI (i := 11) (N := some 48) (v := ?_) (a' := ?_) #[true, true, true, true, true, true, true, true, true, true, true, true, false, false, false, false] rfl rfl (jC HT_.out (by kernel_rfl)) (fun _ _ _ h => h) (Or.inl ⟨by rfl, ?_⟩) ?_ ?_
                                rotate_left
                                · intro w'
                                  go_simp
                                  with_reducible rfl
                                rotate_left
                                · simp only [Act.put, List.setIfInBounds_toArray, List.set_cons_zero, List.set_cons_succ, iW, jD]
                                  rfl
                                refine one_ (i := 12) (N := some 49) #[true, true, true, true, true, true, true, true, true, true, true, true, true, false, false, false] rfl rfl (lQ HT_.out (by kernel_rfl)) (by decide) (fun K hK => ?_)
                                refine jY (w1 := ?_) (v := ?_) (by rfl) rfl ?_ ?_
                                rotate_left 2
                                · go_simp
                                  constructor
                                  · rfl
                                  · rfl
                                refine hK.out _ _ ⟨(iD (iJ BK113.out _) 0).trans rfl, (iD (iJ BK113.out _) 1).trans rfl, (World.cell?_alloc_lt _ _ _ (World.block_lt_of_cell? _ _ (((HB.out.cell (World.block_lt_of_cell? w _ hw115_0)).trans hw115_0)))).trans (((HB.out.cell (World.block_lt_of_cell? w _ hw115_0)).trans hw115_0)), (World.cell?_alloc_lt _ _ _ (World.block_lt_of_cell? _ _ (((HB.out.cell (World.block_lt_of_cell? w _ hw115_1)).trans hw115_1)))).trans (((HB.out.cell (World.block_lt_of_cell? w _ hw115_1)).trans hw115_1)), (World.cell?_alloc_lt _ _ _ (World.block_lt_of_cell? _ _ (((HB.out.cell (World.block_lt_of_cell? w _ hw116_0)).trans hw116_0)))).trans (((HB.out.cell (World.block_lt_of_cell? w _ hw116_0)).trans hw116_0))⟩ (fun hHeld => ?_)
                                clear hK K
                                refine lL (a' := ?_) ?_ ?_
                                rotate_left
                                · show Act.put _ (some 49) _ = _
                                  simp only [Act.put, List.setIfInBounds_toArray, List.set_cons_zero, List.set_cons_succ, iW, jD]
                                  rfl
                                refine one_ (i := 13) (N := some 50) #[true, true, true, true, true, true, true, true, true, true, true, true, true, true, false, false] rfl rfl (lQ HT_.out (by kernel_rfl)) (by decide) (fun K hK => ?_)
                                refine Kd.R_append_step (Kd.int .i64) (w0 := w) w.heap.size (by rfl) (.tmp 38) (.tmp 49) 50 3 (.int .i64 0) 8 rfl Tryd.underlying50 info3 rfl (by decide) (by omega) u114000 x114000_3 ((ji14) % 10000) [.int .i64 ((ji14) % 10000)] (fun _ => True) (fun _ => False) rfl rfl ?aP (fun _ hk => hk.elim) ?aF ?aO ?aB ?aS ?aL ?_
                                (case aP => exact rfl)
                                (case aB => exact (by repeat (first | (with_reducible first | exact HB.out | apply iG | apply iF | apply iH | refine iI ?_ GE113.out) | exact HB.out)))
                                (case aF => exact (fun _ _ => trivial))
                                (case aO => exact (by (with_reducible repeat (first | apply Kd.R_alloc | apply Kd.R_drewN | apply Kd.R_drew)); exact HO_114000.out))
                                (case aS => exact (iT (by repeat (first | (with_reducible first | exact HB.out | apply iG | apply iF | apply iH | refine iI ?_ GE113.out) | exact HB.out))))
                                (case aL => have := LMc15.out; omega)
                                intro v118 w17 ho hb hg hat
                                rw [← Ny117.out] at ho
                                have n0_ := iE.mk (Kd.S_after (ok := (fun k_ => k_ ≠ gb113)) (by (with_reducible repeat (first | apply Kd.S_alloc | apply Kd.S_drewN | apply Kd.S_drew)); exact Kd.S_mono HO_3.out (fun _ hk => ⟨hk.2, hk.1⟩)) hg hat)
                                have n1_ := iE.mk (mQ (g := gb113) (o := .cells #[u114000, .int .i64 ((iY l0 x4_1).f1)] 76 (0, 0)) (bk_ BK113.out) hg (Kd.R_ne HO_114000.out BK113.out (by decide)))
                                have n2_ := iE.mk (hb)
                                have n3_ := iE.mk (ho)
                                clear HO_3
                                clear BK113
                                clear HB
                                clear HO_114000
                                have HO_3 := n0_
                                have BK113 := n1_
                                have HB := n2_
                                have HO119 := n3_
                                clear n0_ n1_ n2_ n3_
                                clear ho hb hg hat
                                obtain ⟨Ao18, co18, eo18⟩ := Kd.R_slice HO119.out
                                (first | subst eo18 | (injection eo18 with f1_ f2_ f3_; have f4_ := f1_.symm; have f5_ := f3_.symm; clear f1_ f2_ f3_; subst f4_; subst f5_))
                                refine hK.out _ _ ⟨(iD BK113.out 0).trans rfl, (iD BK113.out 1).trans rfl, ((HB.out.cell (World.block_lt_of_cell? w _ hw115_0)).trans hw115_0), ((HB.out.cell (World.block_lt_of_cell? w _ hw115_1)).trans hw115_1), ((HB.out.cell (World.block_lt_of_cell? w _ hw116_0)).trans hw116_0)⟩ (fun hHeld => ?_)
                                clear hK K
                                refine lL (a' := ?_) ?_ ?_
                                rotate_left
                                · show Act.put _ (some 50) _ = _
                                  simp only [Act.put, List.setIfInBounds_toArray, List.set_cons_zero, List.set_cons_succ, iW, jD]
                                  rfl
                                refine jI (i := 14) (N := some 51) (v := ?_) (a' := ?_) #[true, true, true, true, true, true, true, true, true, true, true, true, true, true, true, false] rfl rfl (jC HT_.out (by kernel_rfl)) (fun _ _ _ h => h) (Or.inl ⟨by rfl, ?_⟩) ?_ ?_
                                rotate_left
                                · intro w'
                                  go_simp
                                  with_reducible rfl
                                rotate_left
                                · simp only [Act.put, List.setIfInBounds_toArray, List.set_cons_zero, List.set_cons_succ, iW, jD]
                                  rfl
                                refine UE (i := 15) (N := none) #[true, true, true, true, true, true, true, true, true, true, true, true, true, true, true, true] rfl rfl (lQ HT_.out (by kernel_rfl)) (by decide) (fun K hK => ?_)
                                have hs19 : w17.cell? ⟨gb113, 0, none⟩ = some (u114000) := (iD BK113.out 0).trans rfl
                                have hfs19 := iC BK113.out 0
                                refine TA (w1 := ?_) (by rfl) rfl ?_ ?_
                                rotate_left
                                · go_simp
                                  rfl
                                refine hK.out _ _ ?_
                                clear hK K
                                refine zO (pF HT_.out (by kernel_rfl)) ?_
                                try go_wp2
                                go_roundg k3
                                case measure => have := HK1.out; have := HJ1.out; have := HK3.out; omega
                                case rel => exact ⟨(wrap64 (x6_3 + 1)), (y117), (.slice Ao18 y117.length co18), (by first | rfl | (simp; done) | (simp [*]; done)), H', ⟨by have := HK1.out; have := HJ1.out; have := HK3.out; omega⟩, ⟨by (with_reducible repeat (first | apply Kd.S_alloc | apply Kd.S_drewN | apply Kd.S_drew)); exact Kd.S_mono (Kd.S_far (p := ⟨gb113, 0, none⟩) (Kd.S_mono HO_3.out (fun k_ hk => (⟨hk, hk.1⟩ : _ ∧ k_ ≠ gb113))) (fun _ hk => hk.2) (.slice Ao18 y117.length co18)) (fun _ hk => ⟨hk.1.2, hk.1.1⟩)⟩, ⟨by (with_reducible repeat (first | apply Kd.R_alloc | apply Kd.R_drewN | apply Kd.R_drew)); exact Kd.R_mono (Kd.R_far (p := ⟨gb113, 0, none⟩) (Kd.R_types HO119.out BK113.out (by decide)) (fun _ hk => hk.2) (.slice Ao18 y117.length co18)) (fun _ hk => trivial)⟩, ⟨by (with_reducible repeat (first | refine iK ?_ _ | refine iM ?_ | refine iJ ?_ _)); refine iV (cs := #[u114000, .int .i64 ((iY l0 x4_1).f1)]) ?_ 0 _ rfl; (with_reducible repeat (first | refine iK ?_ _ | refine iM ?_ | refine iJ ?_ _)); exact BK113.out⟩, ⟨by repeat (first | (with_reducible first | exact HB.out | apply iG | apply iF | apply iH | refine iI ?_ GE113.out) | exact HB.out)⟩⟩
                              · rw [if_neg c15] at H
                                exact absurd H (by simp)
                            · rw [if_neg c13] at H
                              exact absurd H (by simp)
                          · rw [if_neg c12] at H
                            have c12b0 : decide (x6_3 < 4) = false := decide_eq_false c12
                            clear c12
                            by_cases c20 : x3_1.length < 4398046511104
                            · rw [if_pos c20] at H
                              have LMc20 := iE.mk c20
                              clear c20
                              obtain ⟨y120, hy120⟩ : ∃ y_ : List (S76), y_ = (x3_1 ++ [(⟨x114000_3, ((iY l0 x4_1).f1)⟩ : S76)]) := ⟨_, rfl⟩
                              replace H : (stratumlaw07_Facts.l0 k3 l0 y120 (wrap64 (x4_1 + 1))) = some r := by first | (rw [hy120]; with_reducible exact H) | (have H2_ := (Option.bind_some _ _).symm.trans H; rw [hy120]; with_reducible exact H2_) | (have H2_ := (Option.bind_some _ _).symm.trans H; with_reducible exact H2_) | with_reducible exact H | (rw [hy120]; exact H) | exact H
                              have Ny120 := iE.mk hy120
                              clear hy120
                              have H' := iE.mk H
                              clear H
                              have p114 : 0 ≤ (x4_1 : Int) := of_decide_eq_true asm_
                              have q114 : x4_1 < (l0.length : Int) := of_decide_eq_true asm_
                              obtain ⟨ad114, A114_0, c114_0, e114, hx114_0, hx114_1, hl114_0, hi114_0⟩ := lH HR0.out x4_1 p114 q114
                              obtain rfl : ad112 = ad114 := (by injection e114)
                              replace hx114_0 := (HB.out.cell (World.block_lt_of_cell? w _ hx114_0)).trans hx114_0
                              replace hx114_1 := (HB.out.cell (World.block_lt_of_cell? w _ hx114_1)).trans hx114_1
                              have HR114_0 := iE.mk hi114_0
                              have HC114_0 := iE.mk hl114_0
                              clear hi114_0 hl114_0
                              replace p114 := eq_true p114
                              replace q114 := eq_true q114
                              have hcz21_0 : wr.cell? ⟨gb113, 0, none⟩ = some (u114000) := (iD BK113.out 0).trans rfl
                              have hcz21_1 : wr.cell? ⟨gb113, 1, none⟩ = some (.int .i64 ((iY l0 x4_1).f1)) := (iD BK113.out 1).trans rfl
                              have hfz21_0 := iC BK113.out 0
                              have hfz21_1 := iC BK113.out 1
                              obtain ⟨Ao23, co23, eo23⟩ := Kd.R_slice HO_114000.out
                              subst eo23
                              go_wp2_with (first | ((with_reducible refine oG (b := .append) (xs := #[.tmp 52, .tmp 54]) rfl ?_); at_builtin; refine Kd.S_append k76 (w0 := w) w.heap.size rfl (.tmp 52) (.tmp 54) 51 76 (.agg #[(.slice none 0 0), (.int .i64 0)]) 32 rfl Tryd.underlying51 TE rfl (by decide) (by omega) u3 x3_1 (⟨x114000_3, ((iY l0 x4_1).f1)⟩ : S76) [.slice Ao23 x114000_3.length co23, .int .i64 ((iY l0 x4_1).f1)] (fun k_ => k_ ≠ gb113) (fun k_ => some k_ = (.slice Ao23 x114000_3.length co23 : Value).ownBlock) rfl rfl ?aP (fun k_ hk_ => ((Kd.R_mono (ok' := fun k_ => ((fun k_ => k_ ≠ gb113)) k_ ∧ some k_ ≠ (u3 : Value).ownBlock) (Kd.R_types (Kd.R_apart' (HO_114000.out) (Kd.S_typed HO_3.out) (by decide)) BK113.out (by decide)) (fun k_ hk => ⟨hk.2, hk.1.2⟩))).1 k_ hk_.symm) ?aF ?aO ?aB ?aS ?aL ?_; (case aP => exact JD _ _ _ (⟨x114000_3, ((iY l0 x4_1).f1)⟩ : S76) (Kd.R_mono (Kd.R_tight rfl (Kd.R_mono (ok' := fun k_ => ((fun k_ => k_ ≠ gb113)) k_ ∧ some k_ ≠ (u3 : Value).ownBlock) (Kd.R_types (Kd.R_apart' (HO_114000.out) (Kd.S_typed HO_3.out) (by decide)) BK113.out (by decide)) (fun k_ hk => ⟨hk.2, hk.1.2⟩))) (fun _ h_ => h_))); (case aB => exact (by repeat (first | (with_reducible first | exact HB.out | apply iG | apply iF | apply iH | refine iI ?_ GE113.out) | exact HB.out))); (case aF => exact (fun k_ hk => Kd.freshB (g := gb113) (o := .cells #[.slice Ao23 x114000_3.length co23, .int .i64 ((iY l0 x4_1).f1)] 76 (0, 0)) (bk_ BK113.out) k_ hk)); (case aO => exact (by (with_reducible repeat (first | apply Kd.S_alloc | apply Kd.S_drewN | apply Kd.S_drew)); exact Kd.S_mono HO_3.out (fun k_ hk => ⟨hk.2, fun e_ => hk.1 e_⟩))); (case aS => exact (iT (by repeat (first | (with_reducible first | exact HB.out | apply iG | apply iF | apply iH | refine iI ?_ GE113.out) | exact HB.out)))); (case aL => have := LMc20.out; omega); intro v121 w22 ho hb hg hat; rw [← Ny120.out] at ho; have n0_ := iE.mk (mQ (g := gb113) (o := .cells #[.slice Ao23 x114000_3.length co23, .int .i64 ((iY l0 x4_1).f1)] 76 (0, 0)) (bk_ BK113.out) hg (Kd.S_away HO_3.out (fun _ hk => hk.2))); have n1_ := iE.mk (hb); have n2_ := iE.mk (ho); clear BK113; clear HB; clear HO_3; clear HO_114000; have BK113 := n0_; have HB := n1_; have HO122 := n2_; clear n0_ n1_ n2_; clear ho hb hg hat))
                              go_roundg k3
                              case measure => have := HK1.out; have := HJ1.out; have := HK3.out; omega
                              case rel => exact ⟨(y120), (wrap64 (x4_1 + 1)), (by first | rfl | (simp; done) | (simp [*]; done)), H', ⟨by have := HK1.out; have := HJ1.out; have := HK3.out; omega⟩, ⟨by (with_reducible repeat (first | apply Kd.S_alloc | apply Kd.S_drewN | apply Kd.S_drew)); exact Kd.S_mono HO122.out (fun _ hk => trivial)⟩, ⟨by repeat (first | (with_reducible first | exact HB.out | apply iG | apply iF | apply iH | refine iI ?_ GE113.out) | exact HB.out)⟩⟩
                            · rw [if_neg c20] at H
                              exact absurd H (by simp)
                        · rw [if_neg c11] at H
                          have c11b0 : decide (x6_3 < (((iY l0 x4_1).f0).length : Int)) = false := decide_eq_false c11
                          clear c11
                          by_cases c24 : x3_1.length < 4398046511104
                          · rw [if_pos c24] at H
                            have LMc24 := iE.mk c24
                            clear c24
                            obtain ⟨y123, hy123⟩ : ∃ y_ : List (S76), y_ = (x3_1 ++ [(⟨x114000_3, ((iY l0 x4_1).f1)⟩ : S76)]) := ⟨_, rfl⟩
                            replace H : (stratumlaw07_Facts.l0 k3 l0 y123 (wrap64 (x4_1 + 1))) = some r := by first | (rw [hy123]; with_reducible exact H) | (have H2_ := (Option.bind_some _ _).symm.trans H; rw [hy123]; with_reducible exact H2_) | (have H2_ := (Option.bind_some _ _).symm.trans H; with_reducible exact H2_) | with_reducible exact H | (rw [hy123]; exact H) | exact H
                            have Ny123 := iE.mk hy123
                            clear hy123
                            have H' := iE.mk H
                            clear H
                            have p114 : 0 ≤ (x4_1 : Int) := of_decide_eq_true asm_
                            have q114 : x4_1 < (l0.length : Int) := of_decide_eq_true asm_
                            obtain ⟨ad114, A114_0, c114_0, e114, hx114_0, hx114_1, hl114_0, hi114_0⟩ := lH HR0.out x4_1 p114 q114
                            obtain rfl : ad112 = ad114 := (by injection e114)
                            replace hx114_0 := (HB.out.cell (World.block_lt_of_cell? w _ hx114_0)).trans hx114_0
                            replace hx114_1 := (HB.out.cell (World.block_lt_of_cell? w _ hx114_1)).trans hx114_1
                            have HR114_0 := iE.mk hi114_0
                            have HC114_0 := iE.mk hl114_0
                            clear hi114_0 hl114_0
                            replace p114 := eq_true p114
                            replace q114 := eq_true q114
                            have hcz25_0 : wr.cell? ⟨gb113, 0, none⟩ = some (u114000) := (iD BK113.out 0).trans rfl
                            have hcz25_1 : wr.cell? ⟨gb113, 1, none⟩ = some (.int .i64 ((iY l0 x4_1).f1)) := (iD BK113.out 1).trans rfl
                            have hfz25_0 := iC BK113.out 0
                            have hfz25_1 := iC BK113.out 1
                            obtain ⟨Ao27, co27, eo27⟩ := Kd.R_slice HO_114000.out
                            subst eo27
                            go_wp2_with (first | ((with_reducible refine oG (b := .append) (xs := #[.tmp 52, .tmp 54]) rfl ?_); at_builtin; refine Kd.S_append k76 (w0 := w) w.heap.size rfl (.tmp 52) (.tmp 54) 51 76 (.agg #[(.slice none 0 0), (.int .i64 0)]) 32 rfl Tryd.underlying51 TE rfl (by decide) (by omega) u3 x3_1 (⟨x114000_3, ((iY l0 x4_1).f1)⟩ : S76) [.slice Ao27 x114000_3.length co27, .int .i64 ((iY l0 x4_1).f1)] (fun k_ => k_ ≠ gb113) (fun k_ => some k_ = (.slice Ao27 x114000_3.length co27 : Value).ownBlock) rfl rfl ?aP (fun k_ hk_ => ((Kd.R_mono (ok' := fun k_ => ((fun k_ => k_ ≠ gb113)) k_ ∧ some k_ ≠ (u3 : Value).ownBlock) (Kd.R_types (Kd.R_apart' (HO_114000.out) (Kd.S_typed HO_3.out) (by decide)) BK113.out (by decide)) (fun k_ hk => ⟨hk.2, hk.1.2⟩))).1 k_ hk_.symm) ?aF ?aO ?aB ?aS ?aL ?_; (case aP => exact JD _ _ _ (⟨x114000_3, ((iY l0 x4_1).f1)⟩ : S76) (Kd.R_mono (Kd.R_tight rfl (Kd.R_mono (ok' := fun k_ => ((fun k_ => k_ ≠ gb113)) k_ ∧ some k_ ≠ (u3 : Value).ownBlock) (Kd.R_types (Kd.R_apart' (HO_114000.out) (Kd.S_typed HO_3.out) (by decide)) BK113.out (by decide)) (fun k_ hk => ⟨hk.2, hk.1.2⟩))) (fun _ h_ => h_))); (case aB => exact (by repeat (first | (with_reducible first | exact HB.out | apply iG | apply iF | apply iH | refine iI ?_ GE113.out) | exact HB.out))); (case aF => exact (fun k_ hk => Kd.freshB (g := gb113) (o := .cells #[.slice Ao27 x114000_3.length co27, .int .i64 ((iY l0 x4_1).f1)] 76 (0, 0)) (bk_ BK113.out) k_ hk)); (case aO => exact (by (with_reducible repeat (first | apply Kd.S_alloc | apply Kd.S_drewN | apply Kd.S_drew)); exact Kd.S_mono HO_3.out (fun k_ hk => ⟨hk.2, fun e_ => hk.1 e_⟩))); (case aS => exact (iT (by repeat (first | (with_reducible first | exact HB.out | apply iG | apply iF | apply iH | refine iI ?_ GE113.out) | exact HB.out)))); (case aL => have := LMc24.out; omega); intro v124 w26 ho hb hg hat; rw [← Ny123.out] at ho; have n0_ := iE.mk (mQ (g := gb113) (o := .cells #[.slice Ao27 x114000_3.length co27, .int .i64 ((iY l0 x4_1).f1)] 76 (0, 0)) (bk_ BK113.out) hg (Kd.S_away HO_3.out (fun _ hk => hk.2))); have n1_ := iE.mk (hb); have n2_ := iE.mk (ho); clear BK113; clear HB; clear HO_3; clear HO_114000; have BK113 := n0_; have HB := n1_; have HO125 := n2_; clear n0_ n1_ n2_; clear ho hb hg hat))
                            go_roundg k3
                            case measure => have := HK1.out; have := HJ1.out; have := HK3.out; omega
                            case rel => exact ⟨(y123), (wrap64 (x4_1 + 1)), (by first | rfl | (simp; done) | (simp [*]; done)), H', ⟨by have := HK1.out; have := HJ1.out; have := HK3.out; omega⟩, ⟨by (with_reducible repeat (first | apply Kd.S_alloc | apply Kd.S_drewN | apply Kd.S_drew)); exact Kd.S_mono HO125.out (fun _ hk => trivial)⟩, ⟨by repeat (first | (with_reducible first | exact HB.out | apply iG | apply iF | apply iH | refine iI ?_ GE113.out) | exact HB.out)⟩⟩
                          · rw [if_neg c24] at H
                            exact absurd H (by simp)
                      · rw [if_neg c10] at H
                        exact absurd H (by simp)
                    · rw [if_neg c9] at H
                      exact absurd H (by simp)
              · rw [if_neg c6] at H
                exact absurd H (by simp)
            · rw [if_neg c5] at H
              exact absurd H (by simp)
          · replace c4 := Bool.eq_false_iff.mpr c4
            subst c4
            have H1 : (some x3_1) = some r := by rw [if_neg (show ¬ (false = true) by decide)] at H; exact H
            clear H
            have H := H1
            clear H1
            obtain rfl := Option.some.inj H
            go_wp2
            go_ret
            exact ⟨_, by first | rfl | (simp [iQ, iR] <;> rfl) | (simp [*, iQ, iR] <;> rfl), by (with_reducible repeat (first | apply Kd.S_alloc | apply Kd.S_drewN | apply Kd.S_drew)); exact HO_3.out, hb_⟩
theorem stratumlaw07_Facts.calls (k : Nat) (A0 : Option Addr) (c0 : Nat) (l0 : List (S76)) (r : List (S76)) (w : World) (hr0 : Kd.C k76 w A0 l0.length l0) (hc0 : l0.length ≤ c0) (h : stratumlaw07_Facts.f k l0 = some r) :
    Calls Tryd.prog 102 #[.slice A0 l0.length c0] w fun e w' => ∃ v0_ : Value, e = .returned (v0_) ∧ Kd.R k76 76 w' w.heap.size (fun _ => True) v0_ r ∧ Below w.heap.size w w' :=
  (stratumlaw07_Facts.callsS k A0 c0 l0 r w hr0 hc0 h).mono fun _ _ ⟨v, he, hs, hb⟩ => ⟨v, he, Kd.S_R hs, hb⟩
end Go.Proofs.YtbbhjceelghadaaDoor.K
end
