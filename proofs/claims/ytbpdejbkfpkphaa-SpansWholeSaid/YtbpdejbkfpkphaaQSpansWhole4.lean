/- Parts of the proof, one behind the other: K34, K35. -/
import Derived.Test.YtbpdejbkfpkphaaQSpansWhole3
set_option linter.unusedVariables false
set_option linter.unusedSimpArgs false
section
namespace Go.Proofs.Ytbpdejbkfpkphaa.K
open Go.RowKit Go.Proofs.YtbpdejbkfpkphaaW.PrintWords Go.Proofs.YtbpdejbkfpkphaaW.PrintLast Go.Proofs.YtbpdejbkfpkphaaW.PrintMore
attribute [local go_sem] jU jT jZ jY jO jP jW jV
def spans_Parts.l0 : Nat → Int → List (S77) → List (S77) → Int → Int → Int → List (S60) → Option ((List (S77)))
  | 0, _, _, _, _, _, _, _ => none
  | k + 1, x2, x7, x10, x11, x12, x264000, x264001 => if x12 < x11 then (if 0 ≤ x12 then (if x12 < (x10.length : Int) then (if (((iV x10 x12).f0).length : Int) > 0 then (if 0 < (((iV x10 x12).f0).length : Int) then ((spans_Find.f x264000 x264001 (rd ((iV x10 x12).f0) 0)).bind fun t267 => (if t267 = x2 then ((slices_Clone_int_int.f ((iV x10 x12).f0)).bind fun t268 => (if x7.length < 4398046511104 then (spans_Parts.l0 k x2 (x7 ++ [(⟨t268, (iV x10 x12).f1⟩ : S77)]) x10 x11 (wrap64 (x12 + 1)) x264000 x264001) else (none))) else (spans_Parts.l0 k x2 x7 x10 x11 (wrap64 (x12 + 1)) x264000 x264001))) else (none)) else (spans_Parts.l0 k x2 x7 x10 x11 (wrap64 (x12 + 1)) x264000 x264001)) else (none)) else (none)) else (some x7)
def spans_Parts.f (k : Nat) (a0_0 : Int) (l0_1 : List (S60)) (l1 : List (S77)) (a2 : Int) : Option ((List (S77))) := spans_Parts.l0 k a2 ([] : List (S77)) l1 (l1.length : Int) 0 a0_0 l0_1
theorem spans_Parts.mono_l : ∀ k, (∀ y0 y1 y2 y3 y4 y5 y6, LeO (spans_Parts.l0 k y0 y1 y2 y3 y4 y5 y6) (spans_Parts.l0 (k + 1) y0 y1 y2 y3 y4 y5 y6))
  | 0 => fun _ _ _ _ _ _ _ r h => by simp [spans_Parts.l0] at h
  | k + 1 => by
    have ih0 := spans_Parts.mono_l k
    · intro y0 y1 y2 y3 y4 y5 y6
      unfold spans_Parts.l0
      repeat' first
      | (with_reducible exact ih0 _ _ _ _ _ _ _)
      | (with_reducible exact LeO.refl _)
      | (with_reducible exact LeO.none _)
      | (with_reducible refine LeO.ite ?_ ?_)
      | (with_reducible refine LeO.bind ?_ (fun _ => ?_))
      | exact ih0 _ _ _ _ _ _ _
      | exact LeO.none _
      | refine LeO.ite ?_ ?_
      | refine LeO.bind ?_ (fun _ => ?_)
theorem spans_Parts.mono : ∀ a0 a1 a2 a3 k, LeO (spans_Parts.f k a0 a1 a2 a3) (spans_Parts.f (k + 1) a0 a1 a2 a3) := by
  intro a0 a1 a2 a3 k
  have ih0 := spans_Parts.mono_l k
  unfold spans_Parts.f
  repeat' first
      | (with_reducible exact ih0 _ _ _ _ _ _ _)
      | (with_reducible exact LeO.refl _)
      | (with_reducible exact LeO.none _)
      | (with_reducible refine LeO.ite ?_ ?_)
      | (with_reducible refine LeO.bind ?_ (fun _ => ?_))
      | exact ih0 _ _ _ _ _ _ _
      | exact LeO.none _
      | refine LeO.ite ?_ ?_
      | refine LeO.bind ?_ (fun _ => ?_)
def spans_Parts.T5 : Bool × List (List Nat × List Nat) := (true, [([], []), ([0], [0]), ([1], [1]), ([2], [2]), ([3], [3]), ([4], [4]), ([4], [4]), ([6, 4], [4, 6]), ([7, 4], [4, 7]), ([8, 4], [4, 8]), ([5, 9, 4, 4], [4, 5, 9]), ([4], [4]), ([10, 11, 4], [4, 10, 11]), ([4, 12], [4, 12])])
def spans_Parts.B5 : List Nat := [0, 1, 3, 7, 15, 31, 31, 95, 223, 479, 1023, 31, 4095, 8191]
theorem spans_Parts.tab5 : rtab .any (opsOf Try.f39 5) = spans_Parts.T5 := by kernel_rfl
theorem spans_Parts.bits5 : lU spans_Parts.T5.2 spans_Parts.B5 = true := by kernel_rfl
def spans_Parts.T6 : Bool × List (List Nat × List Nat) := (true, [([], []), ([], []), ([1], [1]), ([2], [2]), ([], []), ([4], [4]), ([3, 5], [3, 5]), ([6], [6]), ([0, 7, 3], [0, 7]), ([8, 8, 0, 1, 2, 3, 4, 5, 6, 7, 8], [0, 8])])
def spans_Parts.B6 : List Nat := [0, 0, 2, 6, 0, 16, 62, 126, 255, 511]
theorem spans_Parts.tab6 : rtab .any (opsOf Try.f39 6) = spans_Parts.T6 := by kernel_rfl
theorem spans_Parts.bits6 : lU spans_Parts.T6.2 spans_Parts.B6 = true := by kernel_rfl
set_option maxHeartbeats 8000000 in
set_option maxRecDepth 100000 in
theorem spans_Parts.calls (k : Nat) (a0_0 : Int) (A0_1 : Option Addr) (c0_1 : Nat) (l0_1 : List (S60)) (A1 : Option Addr) (c1 : Nat) (l1 : List (S77)) (a2 : Int) (r : List (S77)) (w : World) (hr0_1 : Kd.C k60 w A0_1 l0_1.length l0_1) (hc0_1 : l0_1.length ≤ c0_1) (hr1 : Kd.C k77 w A1 l1.length l1) (hc1 : l1.length ≤ c1) (h : spans_Parts.f k a0_0 l0_1 l1 a2 = some r) :
    Calls Try.prog 39 #[.agg #[.int .u32 a0_0, .slice A0_1 l0_1.length c0_1], .slice A1 l1.length c1, .int .i64 a2] w fun e w' => ∃ v0_ : Value, e = .returned (v0_) ∧ Kd.R k77 77 w' w.heap.size (fun _ => True) v0_ r ∧ Below w.heap.size w w' := by
  have hu42 := Try.underlying42
  have hu77 := Try.underlying77
  have HR0_1 := iC.mk hr0_1
  have HC0_1 := iC.mk hc0_1
  clear hr0_1 hc0_1
  have HR1 := iC.mk hr1
  have HC1 := iC.mk hc1
  clear hr1 hc1
  have HB := iC.mk (Below.refl w.heap.size w)
  have H : (spans_Parts.l0 k a2 ([] : List (S77)) l1 (l1.length : Int) 0 a0_0 l0_1) = some r := h
  clear h
  have H' := iC.mk H
  clear H
  go_enter Try.func39, Try.ntmps39
  go_wp2_with (first | ((with_reducible refine jC (N := 3) rfl ?_); refine jA ?hg (N := 3) ?hd (cs := #[.int .u32 a0_0, .slice A0_1 l0_1.length c0_1]) (t := 42) ?hr ?_; (case hd => rfl); (case hg => rfl); (case hr => first | (go_simp; done) | (go_simp; rfl)); intro gb263 hg w4 hbox hb; have n0_ := iC.mk (iK hb_ hb); have n1_ := iC.mk (hbox); have n2_ := iC.mk ((by rw [hg]; exact (iJ hb_) : w.heap.size ≤ gb263)); have n3_ := iC.mk ((by rw [hg]; exact (iJ hb_) : w.heap.size ≤ gb263)); clear HB; have HB := n0_; have BK263 := n1_; have GW263 := n2_; have GE263 := n3_; clear n0_ n1_ n2_ n3_; clear hb hbox hg))
  go_loopg [7, 12] k (fun kq v7 v12 w' => ∃ (x7_1 : List (S77)) (x12_1 : Int), v12 = .int .i64 x12_1 ∧ iC (spans_Parts.l0 kq a2 x7_1 l1 (l1.length : Int) x12_1 a0_0 l0_1 = some r) ∧ iC (kq ≤ k) ∧ iC (Kd.R k77 77 w' w.heap.size (fun _ => True) v7 x7_1) ∧ iC (w'.heap[gb263]? = some (.cells #[.int .u32 a0_0, (.slice A0_1 l0_1.length c0_1)] 42 (0, 0))) ∧ iC (Below w.heap.size w w'))
  case atStart => exact ⟨(([] : List (S77))), (0), (by first | rfl | (simp; done) | (simp [*]; done)), H', ⟨Nat.le_refl _⟩, ⟨by first | exact Kd.R_nil _ _ _ _ _ | exact Kd.N_nil _ _ _ _ _ | exact Kd.V_nil _ _ _ _ _ | exact Kd.Q_nil _ _ _ _ _ | exact Kd.S_nil _ _ _ _ _⟩, ⟨bk_ BK263.out⟩, ⟨by repeat (first | (with_reducible first | exact HB.out | apply iF | apply iD | apply iG | refine iE ?_ GE263.out) | exact HB.out)⟩⟩
  case round =>
    clear H'
    try clear c1
    try clear p2
    try clear c3
    obtain ⟨x7_1, x12_1, rfl, HA, HK1, HO_7, BK263, HB⟩ := hrel
    cases gk with
    | zero => exact absurd HA.out (by simp [spans_Parts.l0])
    | succ k1 =>
      have H := HA.out
      clear HA
      simp only [spans_Parts.l0] at H
      by_cases c5 : x12_1 < (l1.length : Int)
      · rw [if_pos c5] at H
        have c5b0 : decide (x12_1 < (l1.length : Int)) = true := decide_eq_true c5
        clear c5
        by_cases c6 : 0 ≤ x12_1
        · rw [if_pos c6] at H
          have c6b0 : decide (0 ≤ x12_1) = true := decide_eq_true c6
          clear c6
          by_cases c7 : x12_1 < (l1.length : Int)
          · rw [if_pos c7] at H
            have c7b0 : decide (x12_1 < (l1.length : Int)) = true := decide_eq_true c7
            clear c7
            by_cases c8 : (((iV l1 x12_1).f0).length : Int) > 0
            · rw [if_pos c8] at H
              have c8b0 : decide (0 < (((iV l1 x12_1).f0).length : Int)) = true := decide_eq_true c8
              have c8b1 : decide (0 < ((iV l1 x12_1).f0).length) = true := decide_eq_true (by omega)
              clear c8
              by_cases c9 : 0 < (((iV l1 x12_1).f0).length : Int)
              · rw [if_pos c9] at H
                have c9b0 : decide (0 < (((iV l1 x12_1).f0).length : Int)) = true := decide_eq_true c9
                have c9b1 : decide (0 < ((iV l1 x12_1).f0).length) = true := decide_eq_true (by omega)
                clear c9
                replace H := Option.bind_eq_some_iff.mp H
                obtain ⟨t267, A100, H⟩ := H
                replace H : (if t267 = a2 then ((slices_Clone_int_int.f ((iV l1 x12_1).f0)).bind fun t268 => (if x7_1.length < 4398046511104 then (spans_Parts.l0 k1 a2 (x7_1 ++ [(⟨t268, (iV l1 x12_1).f1⟩ : S77)]) l1 (l1.length : Int) (wrap64 (x12_1 + 1)) a0_0 l0_1) else (none))) else (spans_Parts.l0 k1 a2 x7_1 l1 (l1.length : Int) (wrap64 (x12_1 + 1)) a0_0 l0_1)) = some r := H
                have A10 := iC.mk A100
                clear A100
                by_cases c11 : t267 = a2
                · rw [if_pos c11] at H
                  have c11b0 : (t267 == a2) = true := beq_iff_eq.mpr c11
                  have c11b1 : (t267 != a2) = false := bne_eq_false_iff_eq.mpr c11
                  clear c11
                  replace H := Option.bind_eq_some_iff.mp H
                  obtain ⟨t268, A120, H⟩ := H
                  replace H : (if x7_1.length < 4398046511104 then (spans_Parts.l0 k1 a2 (x7_1 ++ [(⟨t268, (iV l1 x12_1).f1⟩ : S77)]) l1 (l1.length : Int) (wrap64 (x12_1 + 1)) a0_0 l0_1) else (none)) = some r := H
                  have A12 := iC.mk A120
                  clear A120
                  by_cases c13 : x7_1.length < 4398046511104
                  · rw [if_pos c13] at H
                    have LMc13 := iC.mk c13
                    clear c13
                    obtain ⟨y271, hy271⟩ : ∃ y_ : List (S77), y_ = (x7_1 ++ [(⟨t268, (iV l1 x12_1).f1⟩ : S77)]) := ⟨_, rfl⟩
                    replace H : (spans_Parts.l0 k1 a2 y271 l1 (l1.length : Int) (wrap64 (x12_1 + 1)) a0_0 l0_1) = some r := by first | (rw [hy271]; with_reducible exact H) | (have H2_ := (Option.bind_some _ _).symm.trans H; rw [hy271]; with_reducible exact H2_) | (have H2_ := (Option.bind_some _ _).symm.trans H; with_reducible exact H2_) | with_reducible exact H | (rw [hy271]; exact H) | exact H
                    have Ny271 := iC.mk hy271
                    clear hy271
                    have H' := iC.mk H
                    clear H
                    have p264 : 0 ≤ (x12_1 : Int) := of_decide_eq_true asm_
                    have q264 : x12_1 < (l1.length : Int) := of_decide_eq_true asm_
                    obtain ⟨ad264, A264_0, c264_0, e264, hx264_0, hx264_1, hl264_0, hi264_0⟩ := kR HR1.out x12_1 p264 q264
                    cases e264
                    replace hx264_0 := (HB.out.cell (World.block_lt_of_cell? w _ hx264_0)).trans hx264_0
                    replace hx264_1 := (HB.out.cell (World.block_lt_of_cell? w _ hx264_1)).trans hx264_1
                    have HR264_0 := iC.mk hi264_0
                    have HC264_0 := iC.mk hl264_0
                    clear hi264_0 hl264_0
                    replace p264 := eq_true p264
                    replace q264 := eq_true q264
                    try go_wp2_with (first | ((with_reducible refine jC (N := 9) rfl ?_); refine jA ?hg (N := 9) ?hd (cs := #[.slice none 0 0, .int .i64 0]) (t := 77) ?hr ?_; (case hd => rfl); (case hg => rfl); (case hr => first | (go_simp; done) | (go_simp; rfl)); intro gb265 hg w14 hbox hb; have n0_ := iC.mk (Kd.R_below (Kd.R_elderB (by (with_reducible repeat (first | apply Kd.R_alloc | apply Kd.R_drewN | apply Kd.R_drew)); exact HO_7.out) gb265 (Nat.le_of_eq hg.symm)) hb); have n1_ := iC.mk (iP (g := gb263) (o := .cells #[.int .u32 a0_0, .slice A0_1 l0_1.length c0_1] 42 (0, 0)) (bk_ BK263.out) hb); have n2_ := iC.mk (iK (by repeat (first | (with_reducible first | exact HB.out | apply iF | apply iD | apply iG | refine iE ?_ GE263.out) | exact HB.out)) hb); have n3_ := iC.mk (hbox); have n4_ := iC.mk ((by rw [hg]; exact (iJ (by repeat (first | (with_reducible first | exact HB.out | apply iF | apply iD | apply iG | refine iE ?_ GE263.out) | exact HB.out))) : w.heap.size ≤ gb265)); have n5_ := iC.mk ((by rw [hg]; exact (iJ (by repeat (first | (with_reducible first | exact HB.out | apply iF | apply iD | apply iG | refine iE ?_ GE263.out) | exact HB.out))) : w.heap.size ≤ gb265)); have n6_ := iC.mk ((by rw [hg]; exact Nat.ne_of_lt (jE (g := gb263) (o := .cells #[.int .u32 a0_0, .slice A0_1 l0_1.length c0_1] 42 (0, 0)) (bk_ BK263.out)) : gb263 ≠ gb265)); have n7_ := iC.mk ((by rw [hg]; exact Nat.ne_of_gt (jE (g := gb263) (o := .cells #[.int .u32 a0_0, .slice A0_1 l0_1.length c0_1] 42 (0, 0)) (bk_ BK263.out)) : gb265 ≠ gb263)); clear HO_7; clear BK263; clear HB; have HO_7 := n0_; have BK263 := n1_; have HB := n2_; have BK265 := n3_; have GW265 := n4_; have GE265 := n5_; have NB263_265 := n6_; have NB265_263 := n7_; clear n0_ n1_ n2_ n3_ n4_ n5_ n6_ n7_; clear hb hbox hg; have hnb15 := NB265_263.out; have hnc15 := NB263_265.out; have hcz16_0 : w14.cell? ⟨gb265, 0, none⟩ = some (.slice none 0 0) := (iI BK265.out 0).trans rfl; have hcz16_1 : w14.cell? ⟨gb265, 1, none⟩ = some (.int .i64 0) := (iI BK265.out 1).trans rfl; have hfz16_0 := iH BK265.out 0; have hfz16_1 := iH BK265.out 1))
                    have n0_ : iC (Kd.R k77 77 ((w14.setCell ⟨gb265, 0, none⟩ (.slice A264_0 ((iV l1 x12_1).f0).length c264_0)).setCell ⟨gb265, 1, none⟩ (.int .i64 ((iV l1 x12_1).f1))) w.heap.size (fun k_ => k_ ≠ gb265) u7 x7_1) := ⟨by (with_reducible repeat (first | apply Kd.R_alloc | apply Kd.R_drewN | apply Kd.R_drew)); exact Kd.R_mono (Kd.R_far (p := ⟨gb265, 1, none⟩) (Kd.R_far (p := ⟨gb265, 0, none⟩) (Kd.R_mono HO_7.out (fun k_ hk => (⟨hk, hk.2⟩ : _ ∧ k_ ≠ gb265))) (fun _ hk => hk.2) (.slice A264_0 ((iV l1 x12_1).f0).length c264_0)) (fun _ hk => hk.2) (.int .i64 ((iV l1 x12_1).f1))) (fun _ hk => hk.1.2)⟩
                    have n1_ : iC (((w14.setCell ⟨gb265, 0, none⟩ (.slice A264_0 ((iV l1 x12_1).f0).length c264_0)).setCell ⟨gb265, 1, none⟩ (.int .i64 ((iV l1 x12_1).f1))).heap[gb263]? = some (.cells #[.int .u32 a0_0, .slice A0_1 l0_1.length c0_1] 42 (0, 0))) := ⟨by (with_reducible repeat (first | refine iM ?_ _ | refine iO ?_ | refine iL ?_ _)); refine jH ?_ NB263_265.out _; (with_reducible repeat (first | refine iM ?_ _ | refine iO ?_ | refine iL ?_ _)); refine jH ?_ NB263_265.out _; (with_reducible repeat (first | refine iM ?_ _ | refine iO ?_ | refine iL ?_ _)); exact BK263.out⟩
                    have n2_ : iC (((w14.setCell ⟨gb265, 0, none⟩ (.slice A264_0 ((iV l1 x12_1).f0).length c264_0)).setCell ⟨gb265, 1, none⟩ (.int .i64 ((iV l1 x12_1).f1))).heap[gb265]? = some (.cells #[.slice A264_0 ((iV l1 x12_1).f0).length c264_0, .int .i64 ((iV l1 x12_1).f1)] 77 (0, 0))) := ⟨by (with_reducible repeat (first | refine iM ?_ _ | refine iO ?_ | refine iL ?_ _)); refine jD (cs := #[.slice A264_0 ((iV l1 x12_1).f0).length c264_0, .int .i64 0]) ?_ 1 _ rfl; (with_reducible repeat (first | refine iM ?_ _ | refine iO ?_ | refine iL ?_ _)); refine jD (cs := #[.slice none 0 0, .int .i64 0]) ?_ 0 _ rfl; (with_reducible repeat (first | refine iM ?_ _ | refine iO ?_ | refine iL ?_ _)); exact BK265.out⟩
                    have n3_ : iC (Below w.heap.size w ((w14.setCell ⟨gb265, 0, none⟩ (.slice A264_0 ((iV l1 x12_1).f0).length c264_0)).setCell ⟨gb265, 1, none⟩ (.int .i64 ((iV l1 x12_1).f1)))) := ⟨by repeat (first | (with_reducible first | exact HB.out | apply iF | apply iD | apply iG | refine iE ?_ GE263.out | refine iE ?_ GE265.out) | exact HB.out)⟩
                    (try clear HO_7)
                    (try clear BK263)
                    (try clear BK265)
                    (try clear HB)
                    generalize ((w14.setCell ⟨gb265, 0, none⟩ (.slice A264_0 ((iV l1 x12_1).f0).length c264_0)).setCell ⟨gb265, 1, none⟩ (.int .i64 ((iV l1 x12_1).f1))) = w17 at n0_ n1_ n2_ n3_ ⊢
                    have HO_7 := n0_
                    have BK263 := n1_
                    have BK265 := n2_
                    have HB := n3_
                    clear n0_ n1_ n2_ n3_
                    have n0_ := iC.mk (Kd.R_drew HO_7.out)
                    have n1_ := iC.mk (iO BK263.out)
                    have n2_ := iC.mk (iO BK265.out)
                    have n3_ := iC.mk (iG HB.out)
                    clear HO_7
                    clear BK263
                    clear BK265
                    clear HB
                    have HO_7 := n0_
                    have BK263 := n1_
                    have BK265 := n2_
                    have HB := n3_
                    clear n0_ n1_ n2_ n3_
                    have p266 : 0 ≤ (0 : Int) := (by omega)
                    have q266 : 0 < (((iV l1 x12_1).f0).length : Int) := of_decide_eq_true asm_
                    obtain ⟨ad266, e266, hx266_0⟩ := Kd.at_int HR264_0.out 0 p266 q266
                    have hw266_0 := hx266_0
                    (try rw [show ((0 : Int)).toNat = 0 from rfl] at hw266_0)
                    (try rw [show 0 * 1 = 0 from rfl] at hw266_0)
                    (try rw [Addr.add_zero'] at hw266_0)
                    cases e266
                    have qi266 : (0 < ((iV l1 x12_1).f0).length) = True := eq_true (by omega)
                    (try rw [show ((0 : Int)).toNat = 0 from rfl] at hx266_0)
                    (try rw [Addr.add_zero'] at hx266_0)
                    replace hx266_0 := (HB.out.cell (World.block_lt_of_cell? w _ hx266_0)).trans hx266_0
                    replace p266 := eq_true p266
                    replace q266 := eq_true q266
                    refine lT (n := 14) (S := fun w' => w'.cell? ⟨gb265, 0, none⟩ = some (.slice (some ad266) ((iV l1 x12_1).f0).length c264_0) ∧ w'.cell? ⟨gb265, 1, none⟩ = some (.int .i64 ((iV l1 x12_1).f1)) ∧ w'.cell? ⟨gb263, 0, none⟩ = some (.int .u32 a0_0) ∧ w'.cell? ⟨gb263, 1, none⟩ = some (.slice A0_1 l0_1.length c0_1) ∧ w'.cell? ad266 = some (.int .i64 (rd ((iV l1 x12_1).f0) 0))) (ds := []) #[false, false, false, false, false, false, false, false, false, false, false, false, false, false] (by kernel_rfl) rfl rfl ⟨(iI BK265.out 0).trans rfl, (iI BK265.out 1).trans rfl, (iI BK263.out 0).trans rfl, (iI BK263.out 1).trans rfl, ((HB.out.cell (World.block_lt_of_cell? w _ hw266_0)).trans hw266_0)⟩ (fun hHeld => ?_); refine kK spans_Parts.tab5 spans_Parts.bits5 (fun HT_ HW_ => ?_)
                    generalize w17.drew = w18 at HO_7 BK263 BK265 HB hx266_0 hHeld ⊢
                    refine jI (i := 0) (N := some 16) (v := ?_) (a' := ?_) #[true, false, false, false, false, false, false, false, false, false, false, false, false, false] rfl rfl (jB HT_.out (by kernel_rfl)) (fun _ _ _ h => h) (Or.inl ⟨by rfl, ?_⟩) ?_ ?_
                    rotate_left
                    · intro w'
                      go_simp
                      with_reducible rfl
                    rotate_left
                    · simp only [Act.put, List.setIfInBounds_toArray, List.set_cons_zero, List.set_cons_succ, iY, iZ]
                      rfl
                    refine take_ (i := 1) (N := some 17) (v := ?_) (a' := ?_) #[true, true, false, false, false, false, false, false, false, false, false, false, false, false] rfl rfl (jM HT_.out HW_.out (by kernel_rfl)) (fun _ _ _ h => h) (Or.inl ⟨by rfl, ?_⟩) hHeld ?_ ?_
                    rotate_left
                    · rintro w' ⟨s0, s1, s2, s3, s4⟩
                      go_simp
                      with_reducible rfl
                    rotate_left
                    · simp only [Act.put, List.setIfInBounds_toArray, List.set_cons_zero, List.set_cons_succ, iY, iZ]
                      rfl
                    refine jI (i := 2) (N := some 18) (v := ?_) (a' := ?_) #[true, true, true, false, false, false, false, false, false, false, false, false, false, false] rfl rfl (jB HT_.out (by kernel_rfl)) (fun _ _ _ h => h) (Or.inl ⟨by rfl, ?_⟩) ?_ ?_
                    rotate_left
                    · intro w'
                      go_simp
                      with_reducible rfl
                    rotate_left
                    · simp only [Act.put, List.setIfInBounds_toArray, List.set_cons_zero, List.set_cons_succ, iY, iZ]
                      rfl
                    refine jI (i := 3) (N := some 19) (v := ?_) (a' := ?_) #[true, true, true, true, false, false, false, false, false, false, false, false, false, false] rfl rfl (jB HT_.out (by kernel_rfl)) (fun _ _ _ h => h) (Or.inl ⟨by rfl, ?_⟩) ?_ ?_
                    rotate_left
                    · intro w'
                      go_simp
                      with_reducible rfl
                    rotate_left
                    · simp only [Act.put, List.setIfInBounds_toArray, List.set_cons_zero, List.set_cons_succ, iY, iZ]
                      rfl
                    refine jI (i := 4) (N := some 20) (v := ?_) (a' := ?_) #[true, true, true, true, true, false, false, false, false, false, false, false, false, false] rfl rfl (jB HT_.out (by kernel_rfl)) (fun _ _ _ h => h) (Or.inl ⟨by rfl, ?_⟩) ?_ ?_
                    rotate_left
                    · intro w'
                      go_simp
                      with_reducible rfl
                    rotate_left
                    · simp only [Act.put, List.setIfInBounds_toArray, List.set_cons_zero, List.set_cons_succ, iY, iZ]
                      rfl
                    refine jI (i := 6) (N := some 22) (v := ?_) (a' := ?_) #[true, true, true, true, true, false, true, false, false, false, false, false, false, false] rfl rfl (jB HT_.out (by kernel_rfl)) (fun _ _ _ h => h) (Or.inl ⟨by rfl, ?_⟩) ?_ ?_
                    rotate_left
                    · intro w'
                      go_simp
                      with_reducible rfl
                    rotate_left
                    · simp only [Act.put, List.setIfInBounds_toArray, List.set_cons_zero, List.set_cons_succ, iY, iZ]
                      rfl
                    refine jI (i := 11) (N := some 27) (v := ?_) (a' := ?_) #[true, true, true, true, true, false, true, false, false, false, false, true, false, false] rfl rfl (jB HT_.out (by kernel_rfl)) (fun _ _ _ h => h) (Or.inl ⟨by rfl, ?_⟩) ?_ ?_
                    rotate_left
                    · intro w'
                      go_simp
                      with_reducible rfl
                    rotate_left
                    · simp only [Act.put, List.setIfInBounds_toArray, List.set_cons_zero, List.set_cons_succ, iY, iZ]
                      rfl
                    refine take_ (i := 5) (N := some 21) (v := ?_) (a' := ?_) #[true, true, true, true, true, true, true, false, false, false, false, true, false, false] rfl rfl (jM HT_.out HW_.out (by kernel_rfl)) (fun _ _ _ h => h) (Or.inl ⟨by rfl, ?_⟩) hHeld ?_ ?_
                    rotate_left
                    · rintro w' ⟨s0, s1, s2, s3, s4⟩
                      go_simp
                      with_reducible rfl
                    rotate_left
                    · simp only [Act.put, List.setIfInBounds_toArray, List.set_cons_zero, List.set_cons_succ, iY, iZ]
                      rfl
                    refine take_ (i := 7) (N := some 23) (v := ?_) (a' := ?_) #[true, true, true, true, true, true, true, true, false, false, false, true, false, false] rfl rfl (jM HT_.out HW_.out (by kernel_rfl)) (fun _ _ _ h => h) (Or.inl ⟨by rfl, ?_⟩) hHeld ?_ ?_
                    rotate_left
                    · rintro w' ⟨s0, s1, s2, s3, s4⟩
                      go_simp
                      with_reducible rfl
                    rotate_left
                    · simp only [Act.put, List.setIfInBounds_toArray, List.set_cons_zero, List.set_cons_succ, iY, iZ]
                      rfl
                    refine jI (i := 8) (N := some 24) (v := ?_) (a' := ?_) #[true, true, true, true, true, true, true, true, true, false, false, true, false, false] rfl rfl (jB HT_.out (by kernel_rfl)) (fun _ _ _ h => h) (Or.inl ⟨by rfl, ?_⟩) ?_ ?_
                    rotate_left
                    · intro w'
                      go_simp
                      with_reducible rfl
                    rotate_left
                    · simp only [Act.put, List.setIfInBounds_toArray, List.set_cons_zero, List.set_cons_succ, iY, iZ]
                      rfl
                    refine take_ (i := 9) (N := some 25) (v := ?_) (a' := ?_) #[true, true, true, true, true, true, true, true, true, true, false, true, false, false] rfl rfl (jM HT_.out HW_.out (by kernel_rfl)) (fun _ _ _ h => h) (Or.inl ⟨by rfl, ?_⟩) hHeld ?_ ?_
                    rotate_left
                    · rintro w' ⟨s0, s1, s2, s3, s4⟩
                      go_simp
                      with_reducible rfl
                    rotate_left
                    · simp only [Act.put, List.setIfInBounds_toArray, List.set_cons_zero, List.set_cons_succ, iY, iZ]
                      rfl
                    refine one_ (i := 10) (N := some 26) #[true, true, true, true, true, true, true, true, true, true, true, true, false, false] rfl rfl (kQ HT_.out (by kernel_rfl)) (by decide) (fun K hK => ?_)
                    refine nY Try.func35 (by kernel_rfl) rfl #[.agg #[.int .u32 a0_0, .slice A0_1 l0_1.length c0_1], .int .i64 (rd ((iV l1 x12_1).f0) 0)] (by rfl) rfl rfl (by (try simp only [List.map_toArray, List.map_cons, List.map_nil]); first | done | rfl | (simp only [List.length_drop, List.length_take]; rfl)) ?_
                    with_reducible refine (spans_Find.calls a0_0 _ _ l0_1 (rd ((iV l1 x12_1).f0) 0) t267 _ ?side1 ?side2 A10.out).mono ?_
                    (case side1 => repeat (first | exact (Kd.C_below HR0_1.out HB.out) | (with_reducible refine Kd.C_alloc ?_ _) | (with_reducible refine Kd.C_drewN ?_ _) | (with_reducible refine Kd.C_drew ?_)))
                    (case side2 => exact HC0_1.out)
                    rintro e w19 ⟨rfl, hb⟩
                    refine ⟨_, rfl, ?_⟩
                    have n0_ := iC.mk (Kd.R_below (by (with_reducible repeat (first | apply Kd.R_alloc | apply Kd.R_drewN | apply Kd.R_drew)); exact HO_7.out) hb)
                    have n1_ := iC.mk (iP (g := gb263) (o := .cells #[.int .u32 a0_0, .slice A0_1 l0_1.length c0_1] 42 (0, 0)) (bk_ BK263.out) hb)
                    have n2_ := iC.mk (iP (g := gb265) (o := .cells #[.slice (some ad266) ((iV l1 x12_1).f0).length c264_0, .int .i64 ((iV l1 x12_1).f1)] 77 (0, 0)) (bk_ BK265.out) hb)
                    have n3_ := iC.mk (iK (by repeat (first | (with_reducible first | exact HB.out | apply iF | apply iD | apply iG | refine iE ?_ GE263.out | refine iE ?_ GE265.out) | exact HB.out)) hb)
                    clear HO_7
                    clear BK263
                    clear BK265
                    clear HB
                    have HO_7 := n0_
                    have BK263 := n1_
                    have BK265 := n2_
                    have HB := n3_
                    clear n0_ n1_ n2_ n3_
                    (try clear hb)
                    (try clear hb2)
                    (try clear hk)
                    (try clear hi)
                    refine hK.out _ _ ⟨(iI BK265.out 0).trans rfl, (iI BK265.out 1).trans rfl, (iI BK263.out 0).trans rfl, (iI BK263.out 1).trans rfl, ((HB.out.cell (World.block_lt_of_cell? w _ hw266_0)).trans hw266_0)⟩ (fun hHeld => ?_)
                    clear hK K
                    refine kT (a' := ?_) ?_ ?_
                    rotate_left
                    · show Act.put _ (some 26) _ = _
                      simp only [Act.put, List.setIfInBounds_toArray, List.set_cons_zero, List.set_cons_succ, iY, iZ]
                      rfl
                    refine jI (i := 12) (N := some 28) (v := ?_) (a' := ?_) #[true, true, true, true, true, true, true, true, true, true, true, true, true, false] rfl rfl (jB HT_.out (by kernel_rfl)) (fun _ _ _ h => h) (Or.inl ⟨by rfl, ?_⟩) ?_ ?_
                    rotate_left
                    · intro w'
                      go_simp
                      with_reducible rfl
                    rotate_left
                    · simp only [Act.put, List.setIfInBounds_toArray, List.set_cons_zero, List.set_cons_succ, iY, iZ]
                      rfl
                    refine jI (i := 13) (N := some 29) (v := ?_) (a' := ?_) #[true, true, true, true, true, true, true, true, true, true, true, true, true, true] rfl rfl (jB HT_.out (by kernel_rfl)) (fun _ _ _ h => h) (Or.inl ⟨by rfl, ?_⟩) ?_ ?_
                    rotate_left
                    · intro w'
                      go_simp
                      with_reducible rfl
                    rotate_left
                    · simp only [Act.put, List.setIfInBounds_toArray, List.set_cons_zero, List.set_cons_succ, iY, iZ]
                      rfl
                    refine nU (kY HT_.out (by kernel_rfl)) ?_
                    try go_wp2
                    have n0_ := iC.mk (Kd.R_drew HO_7.out)
                    have n1_ := iC.mk (iO BK263.out)
                    have n2_ := iC.mk (iO BK265.out)
                    have n3_ := iC.mk (iG HB.out)
                    clear HO_7
                    clear BK263
                    clear BK265
                    clear HB
                    have HO_7 := n0_
                    have BK263 := n1_
                    have BK265 := n2_
                    have HB := n3_
                    clear n0_ n1_ n2_ n3_
                    refine lT (n := 10) (S := fun w' => w'.cell? ⟨gb265, 0, none⟩ = some (.slice (some ad266) ((iV l1 x12_1).f0).length c264_0) ∧ w'.cell? ⟨gb265, 1, none⟩ = some (.int .i64 ((iV l1 x12_1).f1))) (ds := []) #[false, false, false, false, false, false, false, false, false, false] (by kernel_rfl) rfl rfl ⟨(iI BK265.out 0).trans rfl, (iI BK265.out 1).trans rfl⟩ (fun hHeld => ?_); refine kK spans_Parts.tab6 spans_Parts.bits6 (fun HT_ HW_ => ?_)
                    generalize w19.drew = w20 at HO_7 BK263 BK265 HB hHeld ⊢
                    refine jI (i := 0) (N := some 30) (v := ?_) (a' := ?_) #[true, false, false, false, false, false, false, false, false, false] rfl rfl (jB HT_.out (by kernel_rfl)) (fun _ _ _ h => h) (Or.inl ⟨by rfl, ?_⟩) ?_ ?_
                    rotate_left
                    · intro w'
                      go_simp
                      with_reducible rfl
                    rotate_left
                    · simp only [Act.put, List.setIfInBounds_toArray, List.set_cons_zero, List.set_cons_succ, iY, iZ]
                      rfl
                    refine jI (i := 1) (N := some 31) (v := ?_) (a' := ?_) #[true, true, false, false, false, false, false, false, false, false] rfl rfl (jB HT_.out (by kernel_rfl)) (fun _ _ _ h => h) (Or.inl ⟨by rfl, ?_⟩) ?_ ?_
                    rotate_left
                    · intro w'
                      go_simp
                      with_reducible rfl
                    rotate_left
                    · simp only [Act.put, List.setIfInBounds_toArray, List.set_cons_zero, List.set_cons_succ, iY, iZ]
                      rfl
                    refine jI (i := 4) (N := some 34) (v := ?_) (a' := ?_) #[true, true, false, false, true, false, false, false, false, false] rfl rfl (jB HT_.out (by kernel_rfl)) (fun _ _ _ h => h) (Or.inl ⟨by rfl, ?_⟩) ?_ ?_
                    rotate_left
                    · intro w'
                      go_simp
                      with_reducible rfl
                    rotate_left
                    · simp only [Act.put, List.setIfInBounds_toArray, List.set_cons_zero, List.set_cons_succ, iY, iZ]
                      rfl
                    refine take_ (i := 2) (N := some 32) (v := ?_) (a' := ?_) #[true, true, true, false, true, false, false, false, false, false] rfl rfl (jM HT_.out HW_.out (by kernel_rfl)) (fun _ _ _ h => h) (Or.inl ⟨by rfl, ?_⟩) hHeld ?_ ?_
                    rotate_left
                    · rintro w' ⟨s0, s1⟩
                      go_simp
                      with_reducible rfl
                    rotate_left
                    · simp only [Act.put, List.setIfInBounds_toArray, List.set_cons_zero, List.set_cons_succ, iY, iZ]
                      rfl
                    refine take_ (i := 5) (N := some 35) (v := ?_) (a' := ?_) #[true, true, true, false, true, true, false, false, false, false] rfl rfl (jM HT_.out HW_.out (by kernel_rfl)) (fun _ _ _ h => h) (Or.inl ⟨by rfl, ?_⟩) hHeld ?_ ?_
                    rotate_left
                    · rintro w' ⟨s0, s1⟩
                      go_simp
                      with_reducible rfl
                    rotate_left
                    · simp only [Act.put, List.setIfInBounds_toArray, List.set_cons_zero, List.set_cons_succ, iY, iZ]
                      rfl
                    refine one_ (i := 3) (N := some 33) #[true, true, true, true, true, true, false, false, false, false] rfl rfl (kQ HT_.out (by kernel_rfl)) (by decide) (fun K hK => ?_)
                    refine nY Try.func70 (by kernel_rfl) rfl #[.slice (some ad266) ((iV l1 x12_1).f0).length c264_0] (by rfl) rfl rfl (by (try simp only [List.map_toArray, List.map_cons, List.map_nil]); first | done | rfl | (simp only [List.length_drop, List.length_take]; rfl)) ?_
                    with_reducible refine (slices_Clone_int_int.calls _ _ ((iV l1 x12_1).f0) t268 _ ?side1 ?side2 A12.out).mono ?_
                    (case side1 => repeat (first | exact (Kd.C_below HR264_0.out HB.out) | (with_reducible refine Kd.C_alloc ?_ _) | (with_reducible refine Kd.C_drewN ?_ _) | (with_reducible refine Kd.C_drew ?_)))
                    (case side2 => exact HC264_0.out)
                    rintro e w21 ⟨v269, rfl, ho0, hb⟩
                    refine ⟨_, rfl, ?_⟩
                    have n0_ := iC.mk (Kd.R_elder' (by (with_reducible repeat (first | apply Kd.R_alloc | apply Kd.R_drewN | apply Kd.R_drew)); exact HO_7.out) (Kd.R_base ho0) hb)
                    have n1_ := iC.mk (Kd.R_lower ho0 (iJ (by repeat (first | (with_reducible first | exact HB.out | apply iF | apply iD | apply iG | refine iE ?_ GE263.out | refine iE ?_ GE265.out) | exact HB.out))))
                    have n2_ := iC.mk (iP (g := gb263) (o := .cells #[.int .u32 a0_0, .slice A0_1 l0_1.length c0_1] 42 (0, 0)) (bk_ BK263.out) hb)
                    have n3_ := iC.mk (iP (g := gb265) (o := .cells #[.slice (some ad266) ((iV l1 x12_1).f0).length c264_0, .int .i64 ((iV l1 x12_1).f1)] 77 (0, 0)) (bk_ BK265.out) hb)
                    have n4_ := iC.mk (iK (by repeat (first | (with_reducible first | exact HB.out | apply iF | apply iD | apply iG | refine iE ?_ GE263.out | refine iE ?_ GE265.out) | exact HB.out)) hb)
                    clear HO_7
                    clear BK263
                    clear BK265
                    clear HB
                    have HO_7 := n0_
                    have HO270 := n1_
                    have BK263 := n2_
                    have BK265 := n3_
                    have HB := n4_
                    clear n0_ n1_ n2_ n3_ n4_
                    (try clear hb)
                    (try clear hb2)
                    (try clear hk)
                    (try clear hi)
                    (try clear ho0)
                    obtain ⟨Ao22, co22, eo22⟩ := Kd.R_slice HO270.out
                    (first | subst eo22 | (injection eo22 with f1_ f2_ f3_; have f4_ := f1_.symm; have f5_ := f3_.symm; clear f1_ f2_ f3_; subst f4_; subst f5_))
                    refine hK.out _ _ ⟨(iI BK265.out 0).trans rfl, (iI BK265.out 1).trans rfl⟩ (fun hHeld => ?_)
                    clear hK K
                    refine kT (a' := ?_) ?_ ?_
                    rotate_left
                    · show Act.put _ (some 33) _ = _
                      simp only [Act.put, List.setIfInBounds_toArray, List.set_cons_zero, List.set_cons_succ, iY, iZ]
                      rfl
                    refine jI (i := 6) (N := some 36) (v := ?_) (a' := ?_) #[true, true, true, true, true, true, true, false, false, false] rfl rfl (jB HT_.out (by kernel_rfl)) (fun _ _ _ h => h) (Or.inl ⟨by rfl, ?_⟩) ?_ ?_
                    rotate_left
                    · intro w'
                      go_simp
                      with_reducible rfl
                    rotate_left
                    · simp only [Act.put, List.setIfInBounds_toArray, List.set_cons_zero, List.set_cons_succ, iY, iZ]
                      rfl
                    refine one_ (i := 7) (N := some 37) #[true, true, true, true, true, true, true, true, false, false] rfl rfl (kQ HT_.out (by kernel_rfl)) (by decide) (fun K hK => ?_)
                    refine zU (w1 := ?_) (v := ?_) (by rfl) rfl ?_ ?_
                    rotate_left 2
                    · go_simp
                      constructor
                      · rfl
                      · rfl
                    refine hK.out _ _ ⟨(iI (iL BK265.out _) 0).trans rfl, (iI (iL BK265.out _) 1).trans rfl⟩ (fun hHeld => ?_)
                    clear hK K
                    refine kT (a' := ?_) ?_ ?_
                    rotate_left
                    · show Act.put _ (some 37) _ = _
                      simp only [Act.put, List.setIfInBounds_toArray, List.set_cons_zero, List.set_cons_succ, iY, iZ]
                      rfl
                    refine one_ (i := 8) (N := some 38) #[true, true, true, true, true, true, true, true, true, false] rfl rfl (kQ HT_.out (by kernel_rfl)) (by decide) (fun K hK => ?_)
                    refine Kd.R_append_step k77 (w0 := w) w.heap.size (by rfl) (.tmp 30) (.tmp 37) 45 77 (.agg #[(.slice none 0 0), (.int .i64 0)]) 32 rfl Try.underlying45 zG rfl (by decide) (by omega) u7 x7_1 (⟨t268, (iV l1 x12_1).f1⟩ : S77) [.slice Ao22 t268.length co22, .int .i64 ((iV l1 x12_1).f1)] (fun k_ => k_ ≠ gb265) (fun k_ => ((fun k_ => k_ ≠ gb265)) k_ ∧ some k_ ≠ (u7 : Value).ownBlock) rfl rfl ?aP (fun _ hk => hk) ?aF ?aO ?aB ?aS ?aL ?_
                    (case aP => exact yT _ _ _ (⟨t268, (iV l1 x12_1).f1⟩ : S77) (Kd.R_mono (Kd.R_types (Kd.R_apart' (HO270.out) (Kd.R_typed HO_7.out) (by decide)) BK265.out (by decide)) (fun k_ hk => ⟨hk.2, hk.1.2⟩)))
                    (case aB => exact (by repeat (first | (with_reducible first | exact HB.out | apply iF | apply iD | apply iG | refine iE ?_ GE263.out | refine iE ?_ GE265.out) | exact HB.out)))
                    (case aF => exact (fun k_ hk => Kd.freshB (g := gb265) (o := .cells #[.slice (some ad266) ((iV l1 x12_1).f0).length c264_0, .int .i64 ((iV l1 x12_1).f1)] 77 (0, 0)) (bk_ BK265.out) k_ hk))
                    (case aO => exact (by (with_reducible repeat (first | apply Kd.R_alloc | apply Kd.R_drewN | apply Kd.R_drew)); exact Kd.R_mono HO_7.out (fun _ hk => hk.1)))
                    (case aS => exact (iJ (by repeat (first | (with_reducible first | exact HB.out | apply iF | apply iD | apply iG | refine iE ?_ GE263.out | refine iE ?_ GE265.out) | exact HB.out))))
                    (case aL => have := LMc13.out; omega)
                    intro v272 w23 ho hb hg hat
                    rw [← Ny271.out] at ho
                    have n0_ := iC.mk (jL (g := gb263) (o := .cells #[.int .u32 a0_0, .slice A0_1 l0_1.length c0_1] 42 (0, 0)) (bk_ BK263.out) hg (Kd.R_ne HO_7.out BK263.out (by decide)))
                    have n1_ := iC.mk (jL (g := gb265) (o := .cells #[.slice (some ad266) ((iV l1 x12_1).f0).length c264_0, .int .i64 ((iV l1 x12_1).f1)] 77 (0, 0)) (bk_ BK265.out) hg (Kd.R_away HO_7.out (fun _ hk => hk.1)))
                    have n2_ := iC.mk (hb)
                    have n3_ := iC.mk (ho)
                    clear BK263
                    clear BK265
                    clear HB
                    clear HO_7
                    clear HO270
                    have BK263 := n0_
                    have BK265 := n1_
                    have HB := n2_
                    have HO273 := n3_
                    clear n0_ n1_ n2_ n3_
                    clear ho hb hg hat
                    refine hK.out _ _ ⟨(iI BK265.out 0).trans rfl, (iI BK265.out 1).trans rfl⟩ (fun hHeld => ?_)
                    clear hK K
                    refine kT (a' := ?_) ?_ ?_
                    rotate_left
                    · show Act.put _ (some 38) _ = _
                      simp only [Act.put, List.setIfInBounds_toArray, List.set_cons_zero, List.set_cons_succ, iY, iZ]
                      rfl
                    refine jI (i := 9) (N := some 7) (v := ?_) (a' := ?_) #[true, true, true, true, true, true, true, true, true, true] rfl rfl (jB HT_.out (by kernel_rfl)) (fun _ _ _ h => h) (Or.inl ⟨by rfl, ?_⟩) ?_ ?_
                    rotate_left
                    · intro w'
                      go_simp
                      with_reducible rfl
                    rotate_left
                    · simp only [Act.put, List.setIfInBounds_toArray, List.set_cons_zero, List.set_cons_succ, iY, iZ]
                      rfl
                    refine nU (kY HT_.out (by kernel_rfl)) ?_
                    try go_wp2
                    go_roundg k1
                    case measure => have := HK1.out; omega
                    case rel => exact ⟨(y271), (wrap64 (x12_1 + 1)), (by first | rfl | (simp; done) | (simp [*]; done)), H', ⟨by have := HK1.out; omega⟩, ⟨by (with_reducible repeat (first | apply Kd.R_alloc | apply Kd.R_drewN | apply Kd.R_drew)); exact Kd.R_mono HO273.out (fun _ hk => trivial)⟩, ⟨bk_ BK263.out⟩, ⟨by repeat (first | (with_reducible first | exact HB.out | apply iF | apply iD | apply iG | refine iE ?_ GE263.out | refine iE ?_ GE265.out) | exact HB.out)⟩⟩
                  · rw [if_neg c13] at H
                    exact absurd H (by simp)
                · rw [if_neg c11] at H
                  have c11b0 : (t267 == a2) = false := beq_eq_false_iff_ne.mpr c11
                  have c11b1 : (t267 != a2) = true := bne_iff_ne.mpr c11
                  have H' := iC.mk H
                  clear H
                  have p264 : 0 ≤ (x12_1 : Int) := of_decide_eq_true asm_
                  have q264 : x12_1 < (l1.length : Int) := of_decide_eq_true asm_
                  obtain ⟨ad264, A264_0, c264_0, e264, hx264_0, hx264_1, hl264_0, hi264_0⟩ := kR HR1.out x12_1 p264 q264
                  cases e264
                  replace hx264_0 := (HB.out.cell (World.block_lt_of_cell? w _ hx264_0)).trans hx264_0
                  replace hx264_1 := (HB.out.cell (World.block_lt_of_cell? w _ hx264_1)).trans hx264_1
                  have HR264_0 := iC.mk hi264_0
                  have HC264_0 := iC.mk hl264_0
                  clear hi264_0 hl264_0
                  replace p264 := eq_true p264
                  replace q264 := eq_true q264
                  try go_wp2_with (first | ((with_reducible refine jC (N := 9) rfl ?_); refine jA ?hg (N := 9) ?hd (cs := #[.slice none 0 0, .int .i64 0]) (t := 77) ?hr ?_; (case hd => rfl); (case hg => rfl); (case hr => first | (go_simp; done) | (go_simp; rfl)); intro gb265 hg w24 hbox hb; have n0_ := iC.mk (Kd.R_below (Kd.R_elderB (by (with_reducible repeat (first | apply Kd.R_alloc | apply Kd.R_drewN | apply Kd.R_drew)); exact HO_7.out) gb265 (Nat.le_of_eq hg.symm)) hb); have n1_ := iC.mk (iP (g := gb263) (o := .cells #[.int .u32 a0_0, .slice A0_1 l0_1.length c0_1] 42 (0, 0)) (bk_ BK263.out) hb); have n2_ := iC.mk (iK (by repeat (first | (with_reducible first | exact HB.out | apply iF | apply iD | apply iG | refine iE ?_ GE263.out) | exact HB.out)) hb); have n3_ := iC.mk (hbox); have n4_ := iC.mk ((by rw [hg]; exact (iJ (by repeat (first | (with_reducible first | exact HB.out | apply iF | apply iD | apply iG | refine iE ?_ GE263.out) | exact HB.out))) : w.heap.size ≤ gb265)); have n5_ := iC.mk ((by rw [hg]; exact (iJ (by repeat (first | (with_reducible first | exact HB.out | apply iF | apply iD | apply iG | refine iE ?_ GE263.out) | exact HB.out))) : w.heap.size ≤ gb265)); have n6_ := iC.mk ((by rw [hg]; exact Nat.ne_of_lt (jE (g := gb263) (o := .cells #[.int .u32 a0_0, .slice A0_1 l0_1.length c0_1] 42 (0, 0)) (bk_ BK263.out)) : gb263 ≠ gb265)); have n7_ := iC.mk ((by rw [hg]; exact Nat.ne_of_gt (jE (g := gb263) (o := .cells #[.int .u32 a0_0, .slice A0_1 l0_1.length c0_1] 42 (0, 0)) (bk_ BK263.out)) : gb265 ≠ gb263)); clear HO_7; clear BK263; clear HB; have HO_7 := n0_; have BK263 := n1_; have HB := n2_; have BK265 := n3_; have GW265 := n4_; have GE265 := n5_; have NB263_265 := n6_; have NB265_263 := n7_; clear n0_ n1_ n2_ n3_ n4_ n5_ n6_ n7_; clear hb hbox hg; have hnb25 := NB265_263.out; have hnc25 := NB263_265.out; have hcz26_0 : w24.cell? ⟨gb265, 0, none⟩ = some (.slice none 0 0) := (iI BK265.out 0).trans rfl; have hcz26_1 : w24.cell? ⟨gb265, 1, none⟩ = some (.int .i64 0) := (iI BK265.out 1).trans rfl; have hfz26_0 := iH BK265.out 0; have hfz26_1 := iH BK265.out 1))
                  have n0_ : iC (Kd.R k77 77 ((w24.setCell ⟨gb265, 0, none⟩ (.slice A264_0 ((iV l1 x12_1).f0).length c264_0)).setCell ⟨gb265, 1, none⟩ (.int .i64 ((iV l1 x12_1).f1))) w.heap.size (fun k_ => k_ ≠ gb265) u7 x7_1) := ⟨by (with_reducible repeat (first | apply Kd.R_alloc | apply Kd.R_drewN | apply Kd.R_drew)); exact Kd.R_mono (Kd.R_far (p := ⟨gb265, 1, none⟩) (Kd.R_far (p := ⟨gb265, 0, none⟩) (Kd.R_mono HO_7.out (fun k_ hk => (⟨hk, hk.2⟩ : _ ∧ k_ ≠ gb265))) (fun _ hk => hk.2) (.slice A264_0 ((iV l1 x12_1).f0).length c264_0)) (fun _ hk => hk.2) (.int .i64 ((iV l1 x12_1).f1))) (fun _ hk => hk.1.2)⟩
                  have n1_ : iC (((w24.setCell ⟨gb265, 0, none⟩ (.slice A264_0 ((iV l1 x12_1).f0).length c264_0)).setCell ⟨gb265, 1, none⟩ (.int .i64 ((iV l1 x12_1).f1))).heap[gb263]? = some (.cells #[.int .u32 a0_0, .slice A0_1 l0_1.length c0_1] 42 (0, 0))) := ⟨by (with_reducible repeat (first | refine iM ?_ _ | refine iO ?_ | refine iL ?_ _)); refine jH ?_ NB263_265.out _; (with_reducible repeat (first | refine iM ?_ _ | refine iO ?_ | refine iL ?_ _)); refine jH ?_ NB263_265.out _; (with_reducible repeat (first | refine iM ?_ _ | refine iO ?_ | refine iL ?_ _)); exact BK263.out⟩
                  have n2_ : iC (((w24.setCell ⟨gb265, 0, none⟩ (.slice A264_0 ((iV l1 x12_1).f0).length c264_0)).setCell ⟨gb265, 1, none⟩ (.int .i64 ((iV l1 x12_1).f1))).heap[gb265]? = some (.cells #[.slice A264_0 ((iV l1 x12_1).f0).length c264_0, .int .i64 ((iV l1 x12_1).f1)] 77 (0, 0))) := ⟨by (with_reducible repeat (first | refine iM ?_ _ | refine iO ?_ | refine iL ?_ _)); refine jD (cs := #[.slice A264_0 ((iV l1 x12_1).f0).length c264_0, .int .i64 0]) ?_ 1 _ rfl; (with_reducible repeat (first | refine iM ?_ _ | refine iO ?_ | refine iL ?_ _)); refine jD (cs := #[.slice none 0 0, .int .i64 0]) ?_ 0 _ rfl; (with_reducible repeat (first | refine iM ?_ _ | refine iO ?_ | refine iL ?_ _)); exact BK265.out⟩
                  have n3_ : iC (Below w.heap.size w ((w24.setCell ⟨gb265, 0, none⟩ (.slice A264_0 ((iV l1 x12_1).f0).length c264_0)).setCell ⟨gb265, 1, none⟩ (.int .i64 ((iV l1 x12_1).f1)))) := ⟨by repeat (first | (with_reducible first | exact HB.out | apply iF | apply iD | apply iG | refine iE ?_ GE263.out | refine iE ?_ GE265.out) | exact HB.out)⟩
                  (try clear HO_7)
                  (try clear BK263)
                  (try clear BK265)
                  (try clear HB)
                  generalize ((w24.setCell ⟨gb265, 0, none⟩ (.slice A264_0 ((iV l1 x12_1).f0).length c264_0)).setCell ⟨gb265, 1, none⟩ (.int .i64 ((iV l1 x12_1).f1))) = w27 at n0_ n1_ n2_ n3_ ⊢
                  have HO_7 := n0_
                  have BK263 := n1_
                  have BK265 := n2_
                  have HB := n3_
                  clear n0_ n1_ n2_ n3_
                  have n0_ := iC.mk (Kd.R_drew HO_7.out)
                  have n1_ := iC.mk (iO BK263.out)
                  have n2_ := iC.mk (iO BK265.out)
                  have n3_ := iC.mk (iG HB.out)
                  clear HO_7
                  clear BK263
                  clear BK265
                  clear HB
                  have HO_7 := n0_
                  have BK263 := n1_
                  have BK265 := n2_
                  have HB := n3_
                  clear n0_ n1_ n2_ n3_
                  have p266 : 0 ≤ (0 : Int) := (by omega)
                  have q266 : 0 < (((iV l1 x12_1).f0).length : Int) := of_decide_eq_true asm_
                  obtain ⟨ad266, e266, hx266_0⟩ := Kd.at_int HR264_0.out 0 p266 q266
                  have hw266_0 := hx266_0
                  (try rw [show ((0 : Int)).toNat = 0 from rfl] at hw266_0)
                  (try rw [show 0 * 1 = 0 from rfl] at hw266_0)
                  (try rw [Addr.add_zero'] at hw266_0)
                  cases e266
                  have qi266 : (0 < ((iV l1 x12_1).f0).length) = True := eq_true (by omega)
                  (try rw [show ((0 : Int)).toNat = 0 from rfl] at hx266_0)
                  (try rw [Addr.add_zero'] at hx266_0)
                  replace hx266_0 := (HB.out.cell (World.block_lt_of_cell? w _ hx266_0)).trans hx266_0
                  replace p266 := eq_true p266
                  replace q266 := eq_true q266
                  refine lT (n := 14) (S := fun w' => w'.cell? ⟨gb265, 0, none⟩ = some (.slice (some ad266) ((iV l1 x12_1).f0).length c264_0) ∧ w'.cell? ⟨gb265, 1, none⟩ = some (.int .i64 ((iV l1 x12_1).f1)) ∧ w'.cell? ⟨gb263, 0, none⟩ = some (.int .u32 a0_0) ∧ w'.cell? ⟨gb263, 1, none⟩ = some (.slice A0_1 l0_1.length c0_1) ∧ w'.cell? ad266 = some (.int .i64 (rd ((iV l1 x12_1).f0) 0))) (ds := []) #[false, false, false, false, false, false, false, false, false, false, false, false, false, false] (by kernel_rfl) rfl rfl ⟨(iI BK265.out 0).trans rfl, (iI BK265.out 1).trans rfl, (iI BK263.out 0).trans rfl, (iI BK263.out 1).trans rfl, ((HB.out.cell (World.block_lt_of_cell? w _ hw266_0)).trans hw266_0)⟩ (fun hHeld => ?_); refine kK spans_Parts.tab5 spans_Parts.bits5 (fun HT_ HW_ => ?_)
                  generalize w27.drew = w28 at HO_7 BK263 BK265 HB hx266_0 hHeld ⊢
                  refine jI (i := 0) (N := some 16) (v := ?_) (a' := ?_) #[true, false, false, false, false, false, false, false, false, false, false, false, false, false] rfl rfl (jB HT_.out (by kernel_rfl)) (fun _ _ _ h => h) (Or.inl ⟨by rfl, ?_⟩) ?_ ?_
                  rotate_left
                  · intro w'
                    go_simp
                    with_reducible rfl
                  rotate_left
                  · simp only [Act.put, List.setIfInBounds_toArray, List.set_cons_zero, List.set_cons_succ, iY, iZ]
                    rfl
                  refine take_ (i := 1) (N := some 17) (v := ?_) (a' := ?_) #[true, true, false, false, false, false, false, false, false, false, false, false, false, false] rfl rfl (jM HT_.out HW_.out (by kernel_rfl)) (fun _ _ _ h => h) (Or.inl ⟨by rfl, ?_⟩) hHeld ?_ ?_
                  rotate_left
                  · rintro w' ⟨s0, s1, s2, s3, s4⟩
                    go_simp
                    with_reducible rfl
                  rotate_left
                  · simp only [Act.put, List.setIfInBounds_toArray, List.set_cons_zero, List.set_cons_succ, iY, iZ]
                    rfl
                  refine jI (i := 2) (N := some 18) (v := ?_) (a' := ?_) #[true, true, true, false, false, false, false, false, false, false, false, false, false, false] rfl rfl (jB HT_.out (by kernel_rfl)) (fun _ _ _ h => h) (Or.inl ⟨by rfl, ?_⟩) ?_ ?_
                  rotate_left
                  · intro w'
                    go_simp
                    with_reducible rfl
                  rotate_left
                  · simp only [Act.put, List.setIfInBounds_toArray, List.set_cons_zero, List.set_cons_succ, iY, iZ]
                    rfl
                  refine jI (i := 3) (N := some 19) (v := ?_) (a' := ?_) #[true, true, true, true, false, false, false, false, false, false, false, false, false, false] rfl rfl (jB HT_.out (by kernel_rfl)) (fun _ _ _ h => h) (Or.inl ⟨by rfl, ?_⟩) ?_ ?_
                  rotate_left
                  · intro w'
                    go_simp
                    with_reducible rfl
                  rotate_left
                  · simp only [Act.put, List.setIfInBounds_toArray, List.set_cons_zero, List.set_cons_succ, iY, iZ]
                    rfl
                  refine jI (i := 4) (N := some 20) (v := ?_) (a' := ?_) #[true, true, true, true, true, false, false, false, false, false, false, false, false, false] rfl rfl (jB HT_.out (by kernel_rfl)) (fun _ _ _ h => h) (Or.inl ⟨by rfl, ?_⟩) ?_ ?_
                  rotate_left
                  · intro w'
                    go_simp
                    with_reducible rfl
                  rotate_left
                  · simp only [Act.put, List.setIfInBounds_toArray, List.set_cons_zero, List.set_cons_succ, iY, iZ]
                    rfl
                  refine jI (i := 6) (N := some 22) (v := ?_) (a' := ?_) #[true, true, true, true, true, false, true, false, false, false, false, false, false, false] rfl rfl (jB HT_.out (by kernel_rfl)) (fun _ _ _ h => h) (Or.inl ⟨by rfl, ?_⟩) ?_ ?_
                  rotate_left
                  · intro w'
                    go_simp
                    with_reducible rfl
                  rotate_left
                  · simp only [Act.put, List.setIfInBounds_toArray, List.set_cons_zero, List.set_cons_succ, iY, iZ]
                    rfl
                  refine jI (i := 11) (N := some 27) (v := ?_) (a' := ?_) #[true, true, true, true, true, false, true, false, false, false, false, true, false, false] rfl rfl (jB HT_.out (by kernel_rfl)) (fun _ _ _ h => h) (Or.inl ⟨by rfl, ?_⟩) ?_ ?_
                  rotate_left
                  · intro w'
                    go_simp
                    with_reducible rfl
                  rotate_left
                  · simp only [Act.put, List.setIfInBounds_toArray, List.set_cons_zero, List.set_cons_succ, iY, iZ]
                    rfl
                  refine take_ (i := 5) (N := some 21) (v := ?_) (a' := ?_) #[true, true, true, true, true, true, true, false, false, false, false, true, false, false] rfl rfl (jM HT_.out HW_.out (by kernel_rfl)) (fun _ _ _ h => h) (Or.inl ⟨by rfl, ?_⟩) hHeld ?_ ?_
                  rotate_left
                  · rintro w' ⟨s0, s1, s2, s3, s4⟩
                    go_simp
                    with_reducible rfl
                  rotate_left
                  · simp only [Act.put, List.setIfInBounds_toArray, List.set_cons_zero, List.set_cons_succ, iY, iZ]
                    rfl
                  refine take_ (i := 7) (N := some 23) (v := ?_) (a' := ?_) #[true, true, true, true, true, true, true, true, false, false, false, true, false, false] rfl rfl (jM HT_.out HW_.out (by kernel_rfl)) (fun _ _ _ h => h) (Or.inl ⟨by rfl, ?_⟩) hHeld ?_ ?_
                  rotate_left
                  · rintro w' ⟨s0, s1, s2, s3, s4⟩
                    go_simp
                    with_reducible rfl
                  rotate_left
                  · simp only [Act.put, List.setIfInBounds_toArray, List.set_cons_zero, List.set_cons_succ, iY, iZ]
                    rfl
                  refine jI (i := 8) (N := some 24) (v := ?_) (a' := ?_) #[true, true, true, true, true, true, true, true, true, false, false, true, false, false] rfl rfl (jB HT_.out (by kernel_rfl)) (fun _ _ _ h => h) (Or.inl ⟨by rfl, ?_⟩) ?_ ?_
                  rotate_left
                  · intro w'
                    go_simp
                    with_reducible rfl
                  rotate_left
                  · simp only [Act.put, List.setIfInBounds_toArray, List.set_cons_zero, List.set_cons_succ, iY, iZ]
                    rfl
                  refine take_ (i := 9) (N := some 25) (v := ?_) (a' := ?_) #[true, true, true, true, true, true, true, true, true, true, false, true, false, false] rfl rfl (jM HT_.out HW_.out (by kernel_rfl)) (fun _ _ _ h => h) (Or.inl ⟨by rfl, ?_⟩) hHeld ?_ ?_
                  rotate_left
                  · rintro w' ⟨s0, s1, s2, s3, s4⟩
                    go_simp
                    with_reducible rfl
                  rotate_left
                  · simp only [Act.put, List.setIfInBounds_toArray, List.set_cons_zero, List.set_cons_succ, iY, iZ]
                    rfl
                  refine one_ (i := 10) (N := some 26) #[true, true, true, true, true, true, true, true, true, true, true, true, false, false] rfl rfl (kQ HT_.out (by kernel_rfl)) (by decide) (fun K hK => ?_)
                  refine nY Try.func35 (by kernel_rfl) rfl #[.agg #[.int .u32 a0_0, .slice A0_1 l0_1.length c0_1], .int .i64 (rd ((iV l1 x12_1).f0) 0)] (by rfl) rfl rfl (by (try simp only [List.map_toArray, List.map_cons, List.map_nil]); first | done | rfl | (simp only [List.length_drop, List.length_take]; rfl)) ?_
                  with_reducible refine (spans_Find.calls a0_0 _ _ l0_1 (rd ((iV l1 x12_1).f0) 0) t267 _ ?side1 ?side2 A10.out).mono ?_
                  (case side1 => repeat (first | exact (Kd.C_below HR0_1.out HB.out) | (with_reducible refine Kd.C_alloc ?_ _) | (with_reducible refine Kd.C_drewN ?_ _) | (with_reducible refine Kd.C_drew ?_)))
                  (case side2 => exact HC0_1.out)
                  rintro e w29 ⟨rfl, hb⟩
                  refine ⟨_, rfl, ?_⟩
                  have n0_ := iC.mk (Kd.R_below (by (with_reducible repeat (first | apply Kd.R_alloc | apply Kd.R_drewN | apply Kd.R_drew)); exact HO_7.out) hb)
                  have n1_ := iC.mk (iP (g := gb263) (o := .cells #[.int .u32 a0_0, .slice A0_1 l0_1.length c0_1] 42 (0, 0)) (bk_ BK263.out) hb)
                  have n2_ := iC.mk (iP (g := gb265) (o := .cells #[.slice (some ad266) ((iV l1 x12_1).f0).length c264_0, .int .i64 ((iV l1 x12_1).f1)] 77 (0, 0)) (bk_ BK265.out) hb)
                  have n3_ := iC.mk (iK (by repeat (first | (with_reducible first | exact HB.out | apply iF | apply iD | apply iG | refine iE ?_ GE263.out | refine iE ?_ GE265.out) | exact HB.out)) hb)
                  clear HO_7
                  clear BK263
                  clear BK265
                  clear HB
                  have HO_7 := n0_
                  have BK263 := n1_
                  have BK265 := n2_
                  have HB := n3_
                  clear n0_ n1_ n2_ n3_
                  (try clear hb)
                  (try clear hb2)
                  (try clear hk)
                  (try clear hi)
                  refine hK.out _ _ ⟨(iI BK265.out 0).trans rfl, (iI BK265.out 1).trans rfl, (iI BK263.out 0).trans rfl, (iI BK263.out 1).trans rfl, ((HB.out.cell (World.block_lt_of_cell? w _ hw266_0)).trans hw266_0)⟩ (fun hHeld => ?_)
                  clear hK K
                  refine kT (a' := ?_) ?_ ?_
                  rotate_left
                  · show Act.put _ (some 26) _ = _
                    simp only [Act.put, List.setIfInBounds_toArray, List.set_cons_zero, List.set_cons_succ, iY, iZ]
                    rfl
                  refine jI (i := 12) (N := some 28) (v := ?_) (a' := ?_) #[true, true, true, true, true, true, true, true, true, true, true, true, true, false] rfl rfl (jB HT_.out (by kernel_rfl)) (fun _ _ _ h => h) (Or.inl ⟨by rfl, ?_⟩) ?_ ?_
                  rotate_left
                  · intro w'
                    go_simp
                    with_reducible rfl
                  rotate_left
                  · simp only [Act.put, List.setIfInBounds_toArray, List.set_cons_zero, List.set_cons_succ, iY, iZ]
                    rfl
                  refine jI (i := 13) (N := some 29) (v := ?_) (a' := ?_) #[true, true, true, true, true, true, true, true, true, true, true, true, true, true] rfl rfl (jB HT_.out (by kernel_rfl)) (fun _ _ _ h => h) (Or.inl ⟨by rfl, ?_⟩) ?_ ?_
                  rotate_left
                  · intro w'
                    go_simp
                    with_reducible rfl
                  rotate_left
                  · simp only [Act.put, List.setIfInBounds_toArray, List.set_cons_zero, List.set_cons_succ, iY, iZ]
                    rfl
                  refine nU (kY HT_.out (by kernel_rfl)) ?_
                  try go_wp2
                  go_roundg k1
                  case measure => have := HK1.out; omega
                  case rel => exact ⟨(x7_1), (wrap64 (x12_1 + 1)), (by first | rfl | (simp; done) | (simp [*]; done)), H', ⟨by have := HK1.out; omega⟩, ⟨by (with_reducible repeat (first | apply Kd.R_alloc | apply Kd.R_drewN | apply Kd.R_drew)); exact Kd.R_mono HO_7.out (fun _ hk => trivial)⟩, ⟨bk_ BK263.out⟩, ⟨by repeat (first | (with_reducible first | exact HB.out | apply iF | apply iD | apply iG | refine iE ?_ GE263.out | refine iE ?_ GE265.out) | exact HB.out)⟩⟩
              · rw [if_neg c9] at H
                exact absurd H (by simp)
            · rw [if_neg c8] at H
              have c8b0 : decide (0 < (((iV l1 x12_1).f0).length : Int)) = false := decide_eq_false c8
              have c8b1 : decide (0 < ((iV l1 x12_1).f0).length) = false := decide_eq_false (by omega)
              clear c8
              have H' := iC.mk H
              clear H
              have p264 : 0 ≤ (x12_1 : Int) := of_decide_eq_true asm_
              have q264 : x12_1 < (l1.length : Int) := of_decide_eq_true asm_
              obtain ⟨ad264, A264_0, c264_0, e264, hx264_0, hx264_1, hl264_0, hi264_0⟩ := kR HR1.out x12_1 p264 q264
              cases e264
              replace hx264_0 := (HB.out.cell (World.block_lt_of_cell? w _ hx264_0)).trans hx264_0
              replace hx264_1 := (HB.out.cell (World.block_lt_of_cell? w _ hx264_1)).trans hx264_1
              have HR264_0 := iC.mk hi264_0
              have HC264_0 := iC.mk hl264_0
              clear hi264_0 hl264_0
              replace p264 := eq_true p264
              replace q264 := eq_true q264
              try go_wp2_with (first | ((with_reducible refine jC (N := 9) rfl ?_); refine jA ?hg (N := 9) ?hd (cs := #[.slice none 0 0, .int .i64 0]) (t := 77) ?hr ?_; (case hd => rfl); (case hg => rfl); (case hr => first | (go_simp; done) | (go_simp; rfl)); intro gb265 hg w30 hbox hb; have n0_ := iC.mk (Kd.R_below (Kd.R_elderB (by (with_reducible repeat (first | apply Kd.R_alloc | apply Kd.R_drewN | apply Kd.R_drew)); exact HO_7.out) gb265 (Nat.le_of_eq hg.symm)) hb); have n1_ := iC.mk (iP (g := gb263) (o := .cells #[.int .u32 a0_0, .slice A0_1 l0_1.length c0_1] 42 (0, 0)) (bk_ BK263.out) hb); have n2_ := iC.mk (iK (by repeat (first | (with_reducible first | exact HB.out | apply iF | apply iD | apply iG | refine iE ?_ GE263.out) | exact HB.out)) hb); have n3_ := iC.mk (hbox); have n4_ := iC.mk ((by rw [hg]; exact (iJ (by repeat (first | (with_reducible first | exact HB.out | apply iF | apply iD | apply iG | refine iE ?_ GE263.out) | exact HB.out))) : w.heap.size ≤ gb265)); have n5_ := iC.mk ((by rw [hg]; exact (iJ (by repeat (first | (with_reducible first | exact HB.out | apply iF | apply iD | apply iG | refine iE ?_ GE263.out) | exact HB.out))) : w.heap.size ≤ gb265)); have n6_ := iC.mk ((by rw [hg]; exact Nat.ne_of_lt (jE (g := gb263) (o := .cells #[.int .u32 a0_0, .slice A0_1 l0_1.length c0_1] 42 (0, 0)) (bk_ BK263.out)) : gb263 ≠ gb265)); have n7_ := iC.mk ((by rw [hg]; exact Nat.ne_of_gt (jE (g := gb263) (o := .cells #[.int .u32 a0_0, .slice A0_1 l0_1.length c0_1] 42 (0, 0)) (bk_ BK263.out)) : gb265 ≠ gb263)); clear HO_7; clear BK263; clear HB; have HO_7 := n0_; have BK263 := n1_; have HB := n2_; have BK265 := n3_; have GW265 := n4_; have GE265 := n5_; have NB263_265 := n6_; have NB265_263 := n7_; clear n0_ n1_ n2_ n3_ n4_ n5_ n6_ n7_; clear hb hbox hg; have hnb31 := NB265_263.out; have hnc31 := NB263_265.out; have hcz32_0 : w30.cell? ⟨gb265, 0, none⟩ = some (.slice none 0 0) := (iI BK265.out 0).trans rfl; have hcz32_1 : w30.cell? ⟨gb265, 1, none⟩ = some (.int .i64 0) := (iI BK265.out 1).trans rfl; have hfz32_0 := iH BK265.out 0; have hfz32_1 := iH BK265.out 1))
              have n0_ : iC (Kd.R k77 77 ((w30.setCell ⟨gb265, 0, none⟩ (.slice A264_0 ((iV l1 x12_1).f0).length c264_0)).setCell ⟨gb265, 1, none⟩ (.int .i64 ((iV l1 x12_1).f1))) w.heap.size (fun k_ => k_ ≠ gb265) u7 x7_1) := ⟨by (with_reducible repeat (first | apply Kd.R_alloc | apply Kd.R_drewN | apply Kd.R_drew)); exact Kd.R_mono (Kd.R_far (p := ⟨gb265, 1, none⟩) (Kd.R_far (p := ⟨gb265, 0, none⟩) (Kd.R_mono HO_7.out (fun k_ hk => (⟨hk, hk.2⟩ : _ ∧ k_ ≠ gb265))) (fun _ hk => hk.2) (.slice A264_0 ((iV l1 x12_1).f0).length c264_0)) (fun _ hk => hk.2) (.int .i64 ((iV l1 x12_1).f1))) (fun _ hk => hk.1.2)⟩
              have n1_ : iC (((w30.setCell ⟨gb265, 0, none⟩ (.slice A264_0 ((iV l1 x12_1).f0).length c264_0)).setCell ⟨gb265, 1, none⟩ (.int .i64 ((iV l1 x12_1).f1))).heap[gb263]? = some (.cells #[.int .u32 a0_0, .slice A0_1 l0_1.length c0_1] 42 (0, 0))) := ⟨by (with_reducible repeat (first | refine iM ?_ _ | refine iO ?_ | refine iL ?_ _)); refine jH ?_ NB263_265.out _; (with_reducible repeat (first | refine iM ?_ _ | refine iO ?_ | refine iL ?_ _)); refine jH ?_ NB263_265.out _; (with_reducible repeat (first | refine iM ?_ _ | refine iO ?_ | refine iL ?_ _)); exact BK263.out⟩
              have n2_ : iC (((w30.setCell ⟨gb265, 0, none⟩ (.slice A264_0 ((iV l1 x12_1).f0).length c264_0)).setCell ⟨gb265, 1, none⟩ (.int .i64 ((iV l1 x12_1).f1))).heap[gb265]? = some (.cells #[.slice A264_0 ((iV l1 x12_1).f0).length c264_0, .int .i64 ((iV l1 x12_1).f1)] 77 (0, 0))) := ⟨by (with_reducible repeat (first | refine iM ?_ _ | refine iO ?_ | refine iL ?_ _)); refine jD (cs := #[.slice A264_0 ((iV l1 x12_1).f0).length c264_0, .int .i64 0]) ?_ 1 _ rfl; (with_reducible repeat (first | refine iM ?_ _ | refine iO ?_ | refine iL ?_ _)); refine jD (cs := #[.slice none 0 0, .int .i64 0]) ?_ 0 _ rfl; (with_reducible repeat (first | refine iM ?_ _ | refine iO ?_ | refine iL ?_ _)); exact BK265.out⟩
              have n3_ : iC (Below w.heap.size w ((w30.setCell ⟨gb265, 0, none⟩ (.slice A264_0 ((iV l1 x12_1).f0).length c264_0)).setCell ⟨gb265, 1, none⟩ (.int .i64 ((iV l1 x12_1).f1)))) := ⟨by repeat (first | (with_reducible first | exact HB.out | apply iF | apply iD | apply iG | refine iE ?_ GE263.out | refine iE ?_ GE265.out) | exact HB.out)⟩
              (try clear HO_7)
              (try clear BK263)
              (try clear BK265)
              (try clear HB)
              generalize ((w30.setCell ⟨gb265, 0, none⟩ (.slice A264_0 ((iV l1 x12_1).f0).length c264_0)).setCell ⟨gb265, 1, none⟩ (.int .i64 ((iV l1 x12_1).f1))) = w33 at n0_ n1_ n2_ n3_ ⊢
              have HO_7 := n0_
              have BK263 := n1_
              have BK265 := n2_
              have HB := n3_
              clear n0_ n1_ n2_ n3_
              have n0_ := iC.mk (Kd.R_drew HO_7.out)
              have n1_ := iC.mk (iO BK263.out)
              have n2_ := iC.mk (iO BK265.out)
              have n3_ := iC.mk (iG HB.out)
              clear HO_7
              clear BK263
              clear BK265
              clear HB
              have HO_7 := n0_
              have BK263 := n1_
              have BK265 := n2_
              have HB := n3_
              clear n0_ n1_ n2_ n3_
              refine lT (n := 14) (S := fun w' => w'.cell? ⟨gb265, 0, none⟩ = some (.slice A264_0 ((iV l1 x12_1).f0).length c264_0) ∧ w'.cell? ⟨gb265, 1, none⟩ = some (.int .i64 ((iV l1 x12_1).f1))) (ds := []) #[false, false, false, false, false, false, false, false, false, false, false, false, false, false] (by kernel_rfl) rfl rfl ⟨(iI BK265.out 0).trans rfl, (iI BK265.out 1).trans rfl⟩ (fun hHeld => ?_); refine kK spans_Parts.tab5 spans_Parts.bits5 (fun HT_ HW_ => ?_)
              generalize w33.drew = w34 at HO_7 BK263 BK265 HB hHeld ⊢
              refine jI (i := 0) (N := some 16) (v := ?_) (a' := ?_) #[true, false, false, false, false, false, false, false, false, false, false, false, false, false] rfl rfl (jB HT_.out (by kernel_rfl)) (fun _ _ _ h => h) (Or.inl ⟨by rfl, ?_⟩) ?_ ?_
              rotate_left
              · intro w'
                go_simp
                with_reducible rfl
              rotate_left
              · simp only [Act.put, List.setIfInBounds_toArray, List.set_cons_zero, List.set_cons_succ, iY, iZ]
                rfl
              refine take_ (i := 1) (N := some 17) (v := ?_) (a' := ?_) #[true, true, false, false, false, false, false, false, false, false, false, false, false, false] rfl rfl (jM HT_.out HW_.out (by kernel_rfl)) (fun _ _ _ h => h) (Or.inl ⟨by rfl, ?_⟩) hHeld ?_ ?_
              rotate_left
              · rintro w' ⟨s0, s1⟩
                go_simp
                with_reducible rfl
              rotate_left
              · simp only [Act.put, List.setIfInBounds_toArray, List.set_cons_zero, List.set_cons_succ, iY, iZ]
                rfl
              refine jI (i := 2) (N := some 18) (v := ?_) (a' := ?_) #[true, true, true, false, false, false, false, false, false, false, false, false, false, false] rfl rfl (jB HT_.out (by kernel_rfl)) (fun _ _ _ h => h) (Or.inl ⟨by rfl, ?_⟩) ?_ ?_
              rotate_left
              · intro w'
                go_simp
                with_reducible rfl
              rotate_left
              · simp only [Act.put, List.setIfInBounds_toArray, List.set_cons_zero, List.set_cons_succ, iY, iZ]
                rfl
              refine jI (i := 3) (N := some 19) (v := ?_) (a' := ?_) #[true, true, true, true, false, false, false, false, false, false, false, false, false, false] rfl rfl (jB HT_.out (by kernel_rfl)) (fun _ _ _ h => h) (Or.inl ⟨by rfl, ?_⟩) ?_ ?_
              rotate_left
              · intro w'
                go_simp
                with_reducible rfl
              rotate_left
              · simp only [Act.put, List.setIfInBounds_toArray, List.set_cons_zero, List.set_cons_succ, iY, iZ]
                rfl
              refine jI (i := 4) (N := some 20) (v := ?_) (a' := ?_) #[true, true, true, true, true, false, false, false, false, false, false, false, false, false] rfl rfl (jB HT_.out (by kernel_rfl)) (fun _ _ _ h => h) (Or.inl ⟨by rfl, ?_⟩) ?_ ?_
              rotate_left
              · intro w'
                go_simp
                with_reducible rfl
              rotate_left
              · simp only [Act.put, List.setIfInBounds_toArray, List.set_cons_zero, List.set_cons_succ, iY, iZ]
                rfl
              refine jI (i := 5) (N := some 21) (v := undef) (a' := ?_) #[true, true, true, true, true, true, false, false, false, false, false, false, false, false] rfl rfl (jB HT_.out (by kernel_rfl)) (fun _ _ _ h => h) (Or.inr ⟨by rfl, rfl⟩) ?_ ?_
              rotate_left
              · simp only [Act.put, List.setIfInBounds_toArray, List.set_cons_zero, List.set_cons_succ, iY, iZ]
                rfl
              refine jI (i := 6) (N := some 22) (v := undef) (a' := ?_) #[true, true, true, true, true, true, true, false, false, false, false, false, false, false] rfl rfl (jB HT_.out (by kernel_rfl)) (fun _ _ _ h => h) (Or.inr ⟨by rfl, rfl⟩) ?_ ?_
              rotate_left
              · simp only [Act.put, List.setIfInBounds_toArray, List.set_cons_zero, List.set_cons_succ, iY, iZ]
                rfl
              refine jI (i := 7) (N := some 23) (v := undef) (a' := ?_) #[true, true, true, true, true, true, true, true, false, false, false, false, false, false] rfl rfl (jB HT_.out (by kernel_rfl)) (fun _ _ _ h => h) (Or.inr ⟨by rfl, rfl⟩) ?_ ?_
              rotate_left
              · simp only [Act.put, List.setIfInBounds_toArray, List.set_cons_zero, List.set_cons_succ, iY, iZ]
                rfl
              refine jI (i := 8) (N := some 24) (v := undef) (a' := ?_) #[true, true, true, true, true, true, true, true, true, false, false, false, false, false] rfl rfl (jB HT_.out (by kernel_rfl)) (fun _ _ _ h => h) (Or.inr ⟨by rfl, rfl⟩) ?_ ?_
              rotate_left
              · simp only [Act.put, List.setIfInBounds_toArray, List.set_cons_zero, List.set_cons_succ, iY, iZ]
                rfl
              refine jI (i := 9) (N := some 25) (v := undef) (a' := ?_) #[true, true, true, true, true, true, true, true, true, true, false, false, false, false] rfl rfl (jB HT_.out (by kernel_rfl)) (fun _ _ _ h => h) (Or.inr ⟨by rfl, rfl⟩) ?_ ?_
              rotate_left
              · simp only [Act.put, List.setIfInBounds_toArray, List.set_cons_zero, List.set_cons_succ, iY, iZ]
                rfl
              refine jI (i := 10) (N := some 26) (v := undef) (a' := ?_) #[true, true, true, true, true, true, true, true, true, true, true, false, false, false] rfl rfl (jB HT_.out (by kernel_rfl)) (fun _ _ _ h => h) (Or.inr ⟨by rfl, rfl⟩) ?_ ?_
              rotate_left
              · simp only [Act.put, List.setIfInBounds_toArray, List.set_cons_zero, List.set_cons_succ, iY, iZ]
                rfl
              refine jI (i := 11) (N := some 27) (v := undef) (a' := ?_) #[true, true, true, true, true, true, true, true, true, true, true, true, false, false] rfl rfl (jB HT_.out (by kernel_rfl)) (fun _ _ _ h => h) (Or.inr ⟨by rfl, rfl⟩) ?_ ?_
              rotate_left
              · simp only [Act.put, List.setIfInBounds_toArray, List.set_cons_zero, List.set_cons_succ, iY, iZ]
                rfl
              refine jI (i := 12) (N := some 28) (v := undef) (a' := ?_) #[true, true, true, true, true, true, true, true, true, true, true, true, true, false] rfl rfl (jB HT_.out (by kernel_rfl)) (fun _ _ _ h => h) (Or.inr ⟨by rfl, rfl⟩) ?_ ?_
              rotate_left
              · simp only [Act.put, List.setIfInBounds_toArray, List.set_cons_zero, List.set_cons_succ, iY, iZ]
                rfl
              refine jI (i := 13) (N := some 29) (v := ?_) (a' := ?_) #[true, true, true, true, true, true, true, true, true, true, true, true, true, true] rfl rfl (jB HT_.out (by kernel_rfl)) (fun _ _ _ h => h) (Or.inl ⟨by rfl, ?_⟩) ?_ ?_
              rotate_left
              · intro w'
                go_simp
                with_reducible rfl
              rotate_left
              · simp only [Act.put, List.setIfInBounds_toArray, List.set_cons_zero, List.set_cons_succ, iY, iZ]
                rfl
              refine nU (kY HT_.out (by kernel_rfl)) ?_
              try go_wp2
              go_roundg k1
              case measure => have := HK1.out; omega
              case rel => exact ⟨(x7_1), (wrap64 (x12_1 + 1)), (by first | rfl | (simp; done) | (simp [*]; done)), H', ⟨by have := HK1.out; omega⟩, ⟨by (with_reducible repeat (first | apply Kd.R_alloc | apply Kd.R_drewN | apply Kd.R_drew)); exact Kd.R_mono HO_7.out (fun _ hk => trivial)⟩, ⟨bk_ BK263.out⟩, ⟨by repeat (first | (with_reducible first | exact HB.out | apply iF | apply iD | apply iG | refine iE ?_ GE263.out | refine iE ?_ GE265.out) | exact HB.out)⟩⟩
          · rw [if_neg c7] at H
            exact absurd H (by simp)
        · rw [if_neg c6] at H
          exact absurd H (by simp)
      · rw [if_neg c5] at H
        have c5b0 : decide (x12_1 < (l1.length : Int)) = false := decide_eq_false c5
        clear c5
        obtain rfl := Option.some.inj H
        go_wp2
        go_ret
        exact ⟨_, by first | rfl | (simp [iR, iQ] <;> rfl) | (simp [*, iR, iQ] <;> rfl), by (with_reducible repeat (first | apply Kd.R_alloc | apply Kd.R_drewN | apply Kd.R_drew)); exact HO_7.out, by repeat (first | (with_reducible first | exact HB.out | apply iF | apply iD | apply iG | refine iE ?_ GE263.out) | exact HB.out)⟩
end Go.Proofs.Ytbpdejbkfpkphaa.K
end

section
namespace Go.Proofs.Ytbpdejbkfpkphaa.K
open Go.RowKit Go.Proofs.YtbpdejbkfpkphaaW.PrintWords Go.Proofs.YtbpdejbkfpkphaaW.PrintLast Go.Proofs.YtbpdejbkfpkphaaW.PrintMore
attribute [local go_sem] jU jT jZ jY jO jP jW jV
def spans_New.f  : Option (Int × (List (S60))) := some (1, (([(⟨0, 0⟩ : S60)] : List (S60))))
set_option maxHeartbeats 8000000 in
set_option maxRecDepth 100000 in
theorem spans_New.calls  (r1 : Int) (r2 : List (S60)) (w : World) (h : spans_New.f  = some (r1, r2)) :
    Calls Try.prog 44 #[] w fun e w' => ∃ v1_ : Value, e = .returned (.agg #[.int .u32 r1, v1_]) ∧ Kd.R k60 60 w' w.heap.size (fun _ => True) v1_ r2 ∧ Below w.heap.size w w' := by
  have hu42 := Try.underlying42
  have hu60 := Try.underlying60
  have HB := iC.mk (Below.refl w.heap.size w)
  have H : (some (1, (([(⟨0, 0⟩ : S60)] : List (S60))))) = some (r1, r2) := h
  clear h
  obtain ⟨y275, hy275⟩ : ∃ y_ : List (S60), y_ = (([(⟨0, 0⟩ : S60)] : List (S60))) := ⟨_, rfl⟩
  replace H : (some (1, y275)) = some (r1, r2) := by first | (rw [hy275]; with_reducible exact H) | (have H2_ := (Option.bind_some _ _).symm.trans H; rw [hy275]; with_reducible exact H2_) | (have H2_ := (Option.bind_some _ _).symm.trans H; with_reducible exact H2_) | with_reducible exact H | (rw [hy275]; exact H) | exact H
  have Ny275 := iC.mk hy275
  clear hy275
  simp only [Option.some.injEq, Prod.mk.injEq] at H
  obtain ⟨rfl, rfl⟩ := H
  go_enter Try.func44, Try.ntmps44
  go_wp2_with (first | ((with_reducible refine jC (N := 0) rfl ?_); refine jA ?hg (N := 0) ?hd (cs := #[.int .u32 0, .slice none 0 0]) (t := 42) ?hr ?_; (case hd => rfl); (case hg => rfl); (case hr => first | (go_simp; done) | (go_simp; rfl)); intro gb274 hg w1 hbox hb; have n0_ := iC.mk (iK hb_ hb); have n1_ := iC.mk (hbox); have n2_ := iC.mk ((by rw [hg]; exact (iJ hb_) : w.heap.size ≤ gb274)); have n3_ := iC.mk ((by rw [hg]; exact (iJ hb_) : w.heap.size ≤ gb274)); clear HB; have HB := n0_; have BK274 := n1_; have GW274 := n2_; have GE274 := n3_; clear n0_ n1_ n2_ n3_; clear hb hbox hg) | ((with_reducible refine jC (N := 2) rfl ?_); refine Kd.R_lit k60 _ 60 ?hg (N := 2) ?hd (xs := ([(⟨0, 0⟩ : S60)] : List (S60))) (inner := [.int .i64 0, .int .i64 0]) (ok := fun _ => True) (okp := fun _ => True) ?hr ?hp (fun _ hk => hk) trivial (Below.refl _ _) (Nat.le_refl _) (by simp) ?_; (case hd => rfl); (case hg => rfl); (case hr => first | (go_simp; done) | (go_simp; rfl)); (case hp => exact (Reps.c2 (show Kd.M k60 _ _ _ (⟨0, 0⟩ : S60) [.int .i64 0, .int .i64 0] from (kS _ _ _ (⟨0, 0⟩ : S60) )) (Reps.none _ _))); intro v276 w2 ho3 hb hg_ hnew_; clear hg_ hnew_; (first | rw [← Ny275.out] at ho3 | (simp only [Int.reduceToNat] at ho3; rw [← Ny275.out] at ho3)); have n0_ := iC.mk (Kd.R_lower ho3 (iJ (by repeat (first | (with_reducible first | exact HB.out | apply iF | apply iD | apply iG | refine iE ?_ GE274.out) | exact HB.out)))); have n1_ := iC.mk (iP (g := gb274) (o := .cells #[.int .u32 0, .slice none 0 0] 42 (0, 0)) (bk_ BK274.out) hb); have n2_ := iC.mk (iK (by repeat (first | (with_reducible first | exact HB.out | apply iF | apply iD | apply iG | refine iE ?_ GE274.out) | exact HB.out)) hb); clear BK274; clear HB; have HO277 := n0_; have BK274 := n1_; have HB := n2_; clear n0_ n1_ n2_; clear hb ho3; obtain ⟨Ao4, co4, eo4⟩ := Kd.R_slice HO277.out; subst eo4; have hcz5_0 : w2.cell? ⟨gb274, 0, none⟩ = some (.int .u32 0) := (iI BK274.out 0).trans rfl; have hcz5_1 : w2.cell? ⟨gb274, 1, none⟩ = some (.slice none 0 0) := (iI BK274.out 1).trans rfl; have hfz5_0 := iH BK274.out 0; have hfz5_1 := iH BK274.out 1))
  refine bodyPost_ret (results_cell_row rfl _ _ gb274 42 #[.int .u32 1, .slice Ao4 y275.length co4] (0, 0) _ rfl (by (with_reducible repeat (first | refine iM ?_ _ | refine iO ?_ | refine iL ?_ _)); refine jD (cs := #[.int .u32 1, .slice none 0 0]) ?_ 1 _ rfl; (with_reducible repeat (first | refine iM ?_ _ | refine iO ?_ | refine iL ?_ _)); refine jD (cs := #[.int .u32 0, .slice none 0 0]) ?_ 0 _ rfl; (with_reducible repeat (first | refine iM ?_ _ | refine iO ?_ | refine iL ?_ _)); exact BK274.out) Try.underlying42 rfl (by kernel_rfl)) rfl ?_
  exact ⟨_, by first | rfl | (simp [iR, iQ] <;> rfl) | (simp [*, iR, iQ] <;> rfl), by (with_reducible repeat (first | apply Kd.R_alloc | apply Kd.R_drewN | apply Kd.R_drew)); exact Kd.R_mono (Kd.R_far (p := ⟨gb274, 1, none⟩) (Kd.R_far (p := ⟨gb274, 0, none⟩) (Kd.R_types HO277.out BK274.out (by decide)) (fun _ hk => hk.2) (.int .u32 1)) (fun _ hk => hk.2) (.slice Ao4 y275.length co4)) (fun _ hk => trivial), by repeat (first | (with_reducible first | exact HB.out | apply iF | apply iD | apply iG | refine iE ?_ GE274.out) | exact HB.out)⟩
end Go.Proofs.Ytbpdejbkfpkphaa.K
end
