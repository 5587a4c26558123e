/- Parts of the proof, one behind the other: K4, K5, SpX, SpZ, SpA, SpA2, SpO, K2. -/
import Derived.Test.YtjppookmjdaplaaQSpansParts4
set_option linter.unusedVariables false
set_option linter.unusedSimpArgs false
section
namespace Go.Proofs.Ytjppookmjdaplaa.K
open Go.RowKit Go.Proofs.YtjppookmjdaplaaW.PrintWords Go.Proofs.YtjppookmjdaplaaW.PrintLast Go.Proofs.YtjppookmjdaplaaW.PrintMore
attribute [local go_sem] jQ jP jX jW
mutual
def stratumref12_Sound.l0 : Nat → Int → Int → Int → Int → List (S96) → Option (Bool)
  | 0, _, _, _, _, _ => none
  | k + 1, x1, x2, x7, x109000, x109001 => if x7 < (x109001.length : Int) then (if 0 ≤ x7 then (if ((iY x109001 x7).f1) < 0 then (stratumref12_Sound.j1 k x1 x2 x7 true x109000 x109001) else (if ((iY x109001 x7).f1) ≥ (mn x2 6) then (stratumref12_Sound.j1 k x1 x2 x7 true x109000 x109001) else (if ((iY x109001 x7).f0) ≥ x1 then (stratumref12_Sound.j1 k x1 x2 x7 true x109000 x109001) else (if x7 = 0 then (stratumref12_Sound.j1 k x1 x2 x7 (((iY x109001 x7).f0) != 0) x109000 x109001) else (stratumref12_Sound.j1 k x1 x2 x7 false x109000 x109001))))) else (none)) else (if (x109001.length : Int) ≥ 1 then (some (decide ((x109001.length : Int) ≤ 40))) else (some false))
def stratumref12_Sound.j1 : Nat → Int → Int → Int → Bool → Int → List (S96) → Option (Bool)
  | 0, _, _, _, _, _, _ => none
  | k + 1, x1, x2, x7, x55, x109000, x109001 => if x55 = true then (some false) else (if x7 > 0 then (if 0 ≤ x7 then (if x7 < (x109001.length : Int) then (if 0 ≤ (wrap64 (x7 - 1)) then (if (wrap64 (x7 - 1)) < (x109001.length : Int) then (if ((iY x109001 x7).f0) ≤ ((iY x109001 (wrap64 (x7 - 1))).f0) then (some false) else (if ((iY x109001 x7).f1) = ((iY x109001 (wrap64 (x7 - 1))).f1) then (some false) else (stratumref12_Sound.l0 k x1 x2 (wrap64 (x7 + 1)) x109000 x109001))) else (none)) else (none)) else (none)) else (none)) else (stratumref12_Sound.l0 k x1 x2 (wrap64 (x7 + 1)) x109000 x109001))
end
def stratumref12_Sound.f (k : Nat) (a0_0 : Int) (l0_1 : List (S96)) (a1 : Int) (a2 : Int) : Option (Bool) := stratumref12_Sound.l0 k a1 a2 0 a0_0 l0_1
theorem stratumref12_Sound.mono_l : ∀ k, (∀ y0 y1 y2 y3 y4, LeO (stratumref12_Sound.l0 k y0 y1 y2 y3 y4) (stratumref12_Sound.l0 (k + 1) y0 y1 y2 y3 y4)) ∧ (∀ y0 y1 y2 y3 y4 y5, LeO (stratumref12_Sound.j1 k y0 y1 y2 y3 y4 y5) (stratumref12_Sound.j1 (k + 1) y0 y1 y2 y3 y4 y5))
  | 0 => ⟨fun _ _ _ _ _ r h => by simp [stratumref12_Sound.l0] at h, fun _ _ _ _ _ _ r h => by simp [stratumref12_Sound.j1] at h⟩
  | k + 1 => by
    obtain ⟨ih0, ih1⟩ := stratumref12_Sound.mono_l k
    refine ⟨?_, ?_⟩
    · intro y0 y1 y2 y3 y4
      unfold stratumref12_Sound.l0
      repeat' first
      | (with_reducible exact ih0 _ _ _ _ _)
      | (with_reducible exact ih1 _ _ _ _ _ _)
      | (with_reducible exact LeO.refl _)
      | (with_reducible exact LeO.none _)
      | (with_reducible refine LeO.ite ?_ ?_)
      | (with_reducible refine LeO.bind ?_ (fun _ => ?_))
      | exact ih0 _ _ _ _ _
      | exact ih1 _ _ _ _ _ _
      | exact LeO.none _
      | refine LeO.ite ?_ ?_
      | refine LeO.bind ?_ (fun _ => ?_)
    · intro y0 y1 y2 y3 y4 y5
      unfold stratumref12_Sound.j1
      repeat' first
      | (with_reducible exact ih0 _ _ _ _ _)
      | (with_reducible exact ih1 _ _ _ _ _ _)
      | (with_reducible exact LeO.refl _)
      | (with_reducible exact LeO.none _)
      | (with_reducible refine LeO.ite ?_ ?_)
      | (with_reducible refine LeO.bind ?_ (fun _ => ?_))
      | exact ih0 _ _ _ _ _
      | exact ih1 _ _ _ _ _ _
      | exact LeO.none _
      | refine LeO.ite ?_ ?_
      | refine LeO.bind ?_ (fun _ => ?_)
theorem stratumref12_Sound.mono : ∀ a0 a1 a2 a3 k, LeO (stratumref12_Sound.f k a0 a1 a2 a3) (stratumref12_Sound.f (k + 1) a0 a1 a2 a3) := by
  intro a0 a1 a2 a3 k
  obtain ⟨ih0, ih1⟩ := stratumref12_Sound.mono_l k
  unfold stratumref12_Sound.f
  repeat' first
      | (with_reducible exact ih0 _ _ _ _ _)
      | (with_reducible exact ih1 _ _ _ _ _ _)
      | (with_reducible exact LeO.refl _)
      | (with_reducible exact LeO.none _)
      | (with_reducible refine LeO.ite ?_ ?_)
      | (with_reducible refine LeO.bind ?_ (fun _ => ?_))
      | exact ih0 _ _ _ _ _
      | exact ih1 _ _ _ _ _ _
      | exact LeO.none _
      | refine LeO.ite ?_ ?_
      | refine LeO.bind ?_ (fun _ => ?_)
set_option maxHeartbeats 8000000 in
set_option maxRecDepth 100000 in
theorem stratumref12_Sound.calls (k : Nat) (a0_0 : Int) (A0_1 : Option Addr) (c0_1 : Nat) (l0_1 : List (S96)) (a1 : Int) (a2 : Int) (r : Bool) (w : World) (hr0_1 : Kd.C k96 w A0_1 l0_1.length l0_1) (hc0_1 : l0_1.length ≤ c0_1) (h : stratumref12_Sound.f k a0_0 l0_1 a1 a2 = some r) :
    Calls Try.prog 69 #[.agg #[.int .u32 a0_0, .slice A0_1 l0_1.length c0_1], .int .i64 a1, .int .i64 a2] w fun e w' => e = .returned (.bool r) ∧ Below w.heap.size w w' := by
  have hu42 := Try.underlying42
  have HR0_1 := iC.mk hr0_1
  have HC0_1 := iC.mk hc0_1
  clear hr0_1 hc0_1
  have HB := iC.mk (Below.refl w.heap.size w)
  have H : (stratumref12_Sound.l0 k a1 a2 0 a0_0 l0_1) = some r := h
  clear h
  have H' := iC.mk H
  clear H
  go_enter Try.func69, Try.ntmps69
  go_wp2_with (first | ((with_reducible refine jF (N := 3) rfl ?_); (try (refine jB (by rfl) ?_; dsimp only)); refine jD ?hg (N := 3) ?hd (cs := #[.int .u32 a0_0, .slice A0_1 l0_1.length c0_1]) (t := 42) ?hr ?_; (case hd => rfl); (case hg => rfl); (case hr => first | (go_simp; done) | (go_simp; rfl)); intro gb108 hg w4 hbox hb; have n0_ := iC.mk (iM hb_ hb); have n1_ := iC.mk (hbox); have n2_ := iC.mk ((by rw [hg]; exact (iJ hb_) : w.heap.size ≤ gb108)); have n3_ := iC.mk ((by rw [hg]; exact (iJ hb_) : w.heap.size ≤ gb108)); clear HB; have HB := n0_; have BK108 := n1_; have GW108 := n2_; have GE108 := n3_; clear n0_ n1_ n2_ n3_; clear hb hbox hg))
  repeat (go_quiet (first | ((with_reducible refine jF (N := 3) rfl ?_); (try (refine jB (by rfl) ?_; dsimp only)); refine jD ?hg (N := 3) ?hd (cs := #[.int .u32 a0_0, .slice A0_1 l0_1.length c0_1]) (t := 42) ?hr ?_; (case hd => rfl); (case hg => rfl); (case hr => first | (go_simp; done) | (go_simp; rfl)); intro gb108 hg w4 hbox hb; have n0_ := iC.mk (iM hb_ hb); have n1_ := iC.mk (hbox); have n2_ := iC.mk ((by rw [hg]; exact (iJ hb_) : w.heap.size ≤ gb108)); have n3_ := iC.mk ((by rw [hg]; exact (iJ hb_) : w.heap.size ≤ gb108)); clear HB; have HB := n0_; have BK108 := n1_; have GW108 := n2_; have GE108 := n3_; clear n0_ n1_ n2_ n3_; clear hb hbox hg)); try go_wp2_with (first | ((with_reducible refine jF (N := 3) rfl ?_); (try (refine jB (by rfl) ?_; dsimp only)); refine jD ?hg (N := 3) ?hd (cs := #[.int .u32 a0_0, .slice A0_1 l0_1.length c0_1]) (t := 42) ?hr ?_; (case hd => rfl); (case hg => rfl); (case hr => first | (go_simp; done) | (go_simp; rfl)); intro gb108 hg w4 hbox hb; have n0_ := iC.mk (iM hb_ hb); have n1_ := iC.mk (hbox); have n2_ := iC.mk ((by rw [hg]; exact (iJ hb_) : w.heap.size ≤ gb108)); have n3_ := iC.mk ((by rw [hg]; exact (iJ hb_) : w.heap.size ≤ gb108)); clear HB; have HB := n0_; have BK108 := n1_; have GW108 := n2_; have GE108 := n3_; clear n0_ n1_ n2_ n3_; clear hb hbox hg)))
  go_loopg [7] k (fun kq v7 w' => ∃ (x7_1 : Int), v7 = .int .i64 x7_1 ∧ iC (stratumref12_Sound.l0 kq a1 a2 x7_1 a0_0 l0_1 = some r) ∧ iC (kq ≤ k) ∧ iC (w'.heap[gb108]? = some (.cells #[.int .u32 a0_0, (.slice A0_1 l0_1.length c0_1)] 42 (0, 0))) ∧ iC (Below w.heap.size w w'))
  case atStart => exact ⟨(0), (by first | rfl | (simp; done) | (simp [*]; done)), H', ⟨Nat.le_refl _⟩, ⟨bk_ BK108.out⟩, ⟨by repeat (first | (with_reducible first | exact HB.out | apply iG | apply iD | apply iF | refine iE ?_ GE108.out) | exact HB.out)⟩⟩
  case round =>
    clear H'
    try clear p2
    obtain ⟨x7_1, rfl, HA, HK1, BK108, HB⟩ := hrel
    cases gk with
    | zero => exact absurd HA.out (by simp [stratumref12_Sound.l0])
    | succ k1 =>
      have H := HA.out
      clear HA
      simp only [stratumref12_Sound.l0] at H
      by_cases c5 : x7_1 < (l0_1.length : Int)
      · rw [if_pos c5] at H
        have c5b0 : decide (x7_1 < (l0_1.length : Int)) = true := decide_eq_true c5
        clear c5
        have HC6 := iC.mk H
        clear H
        have hcz7_0 : wr.cell? ⟨gb108, 0, none⟩ = some (.int .u32 a0_0) := (iH BK108.out 0).trans rfl
        have hcz7_1 : wr.cell? ⟨gb108, 1, none⟩ = some (.slice A0_1 l0_1.length c0_1) := (iH BK108.out 1).trans rfl
        have hfz7_0 := iI BK108.out 0
        have hfz7_1 := iI BK108.out 1
        go_upto_region 4 with (fail)
        repeat (go_quiet (fail); go_upto_region 4 with (fail))
        go_cut [55] (fun v55 wc => ∃ (kq : Nat) (x55_5 : Bool), v55 = .bool x55_5 ∧ iC (stratumref12_Sound.j1 kq a1 a2 x7_1 x55_5 a0_0 l0_1 = some r) ∧ iC (kq ≤ k1) ∧ iC (wc.heap[gb108]? = some (.cells #[.int .u32 a0_0, (.slice A0_1 l0_1.length c0_1)] 42 (0, 0))) ∧ iC (Below w.heap.size w wc))
        case first =>
          have H := HC6.out
          clear HC6
          by_cases c8 : 0 ≤ x7_1
          · rw [if_pos c8] at H
            have c8b0 : decide (0 ≤ x7_1) = true := decide_eq_true c8
            clear c8
            (first | rw [c8b0] | (simp only [iR, iT]; rw [c8b0]) | skip)
            by_cases c9 : ((iY l0_1 x7_1).f1) < 0
            · rw [if_pos c9] at H
              have c9b0 : decide (((iY l0_1 x7_1).f1) < 0) = true := decide_eq_true c9
              clear c9
              have H' := iC.mk H
              clear H
              have hcz10_0 : wr.cell? ⟨gb108, 0, none⟩ = some (.int .u32 a0_0) := (iH BK108.out 0).trans rfl
              have hcz10_1 : wr.cell? ⟨gb108, 1, none⟩ = some (.slice A0_1 l0_1.length c0_1) := (iH BK108.out 1).trans rfl
              have hfz10_0 := iI BK108.out 0
              have hfz10_1 := iI BK108.out 1
              have p109 : 0 ≤ (x7_1 : Int) := of_decide_eq_true asm_
              have q109 : x7_1 < (l0_1.length : Int) := of_decide_eq_true asm_
              obtain ⟨ad109, e109, hx109_0, hx109_1⟩ := jL HR0_1.out x7_1 p109 q109
              cases e109
              replace hx109_0 := (HB.out.cell (World.block_lt_of_cell? w _ hx109_0)).trans hx109_0
              replace hx109_1 := (HB.out.cell (World.block_lt_of_cell? w _ hx109_1)).trans hx109_1
              replace p109 := eq_true p109
              replace q109 := eq_true q109
              go_wp2
              repeat (go_quiet (fail); try go_wp2)
              go_meet
              case rel => exact ⟨_, (true), (by first | rfl | (simp; done) | (simp [*]; done)), H', ⟨by have := HK1.out; first | omega | exact Nat.le_refl _⟩, ⟨bk_ BK108.out⟩, ⟨by repeat (first | (with_reducible first | exact HB.out | apply iG | apply iD | apply iF | refine iE ?_ GE108.out) | exact HB.out)⟩⟩
            · rw [if_neg c9] at H
              have c9b0 : decide (((iY l0_1 x7_1).f1) < 0) = false := decide_eq_false c9
              clear c9
              obtain ⟨ji11, hji11⟩ : ∃ j_ : Int, (mn a2 6) = j_ := ⟨_, rfl⟩
              replace H : (if ((iY l0_1 x7_1).f1) ≥ (ji11) then (stratumref12_Sound.j1 k1 a1 a2 x7_1 true a0_0 l0_1) else (if ((iY l0_1 x7_1).f0) ≥ a1 then (stratumref12_Sound.j1 k1 a1 a2 x7_1 true a0_0 l0_1) else (if x7_1 = 0 then (stratumref12_Sound.j1 k1 a1 a2 x7_1 (((iY l0_1 x7_1).f0) != 0) a0_0 l0_1) else (stratumref12_Sound.j1 k1 a1 a2 x7_1 false a0_0 l0_1)))) = some r := by first | (rw [hji11] at H; exact H) | (simp only [hji11] at H ⊢; exact H)
              have hji11_ : (if 6 < a2 then 6 else a2) = ji11 := hji11
              by_cases c12 : ((iY l0_1 x7_1).f1) ≥ (ji11)
              · rw [if_pos c12] at H
                have c12b0 : decide ((ji11) ≤ ((iY l0_1 x7_1).f1)) = true := decide_eq_true c12
                clear c12
                have H' := iC.mk H
                clear H
                have hcz13_0 : wr.cell? ⟨gb108, 0, none⟩ = some (.int .u32 a0_0) := (iH BK108.out 0).trans rfl
                have hcz13_1 : wr.cell? ⟨gb108, 1, none⟩ = some (.slice A0_1 l0_1.length c0_1) := (iH BK108.out 1).trans rfl
                have hfz13_0 := iI BK108.out 0
                have hfz13_1 := iI BK108.out 1
                have p109 : 0 ≤ (x7_1 : Int) := of_decide_eq_true asm_
                have q109 : x7_1 < (l0_1.length : Int) := of_decide_eq_true asm_
                obtain ⟨ad109, e109, hx109_0, hx109_1⟩ := jL HR0_1.out x7_1 p109 q109
                cases e109
                replace hx109_0 := (HB.out.cell (World.block_lt_of_cell? w _ hx109_0)).trans hx109_0
                replace hx109_1 := (HB.out.cell (World.block_lt_of_cell? w _ hx109_1)).trans hx109_1
                replace p109 := eq_true p109
                replace q109 := eq_true q109
                have p110 : 0 ≤ (x7_1 : Int) := of_decide_eq_true asm_
                have q110 : x7_1 < (l0_1.length : Int) := of_decide_eq_true asm_
                obtain ⟨ad110, e110, hx110_0, hx110_1⟩ := jL HR0_1.out x7_1 p110 q110
                obtain rfl : ad109 = ad110 := (by injection e110)
                replace hx110_0 := (HB.out.cell (World.block_lt_of_cell? w _ hx110_0)).trans hx110_0
                replace hx110_1 := (HB.out.cell (World.block_lt_of_cell? w _ hx110_1)).trans hx110_1
                replace p110 := eq_true p110
                replace q110 := eq_true q110
                go_wp2
                repeat (go_quiet (fail); try go_wp2)
                go_meet
                case rel => exact ⟨_, (true), (by first | rfl | (simp; done) | (simp [*]; done)), H', ⟨by have := HK1.out; first | omega | exact Nat.le_refl _⟩, ⟨bk_ BK108.out⟩, ⟨by repeat (first | (with_reducible first | exact HB.out | apply iG | apply iD | apply iF | refine iE ?_ GE108.out) | exact HB.out)⟩⟩
              · rw [if_neg c12] at H
                have c12b0 : decide ((ji11) ≤ ((iY l0_1 x7_1).f1)) = false := decide_eq_false c12
                clear c12
                by_cases c14 : ((iY l0_1 x7_1).f0) ≥ a1
                · rw [if_pos c14] at H
                  have c14b0 : decide (a1 ≤ ((iY l0_1 x7_1).f0)) = true := decide_eq_true c14
                  clear c14
                  have H' := iC.mk H
                  clear H
                  have hcz15_0 : wr.cell? ⟨gb108, 0, none⟩ = some (.int .u32 a0_0) := (iH BK108.out 0).trans rfl
                  have hcz15_1 : wr.cell? ⟨gb108, 1, none⟩ = some (.slice A0_1 l0_1.length c0_1) := (iH BK108.out 1).trans rfl
                  have hfz15_0 := iI BK108.out 0
                  have hfz15_1 := iI BK108.out 1
                  have p109 : 0 ≤ (x7_1 : Int) := of_decide_eq_true asm_
                  have q109 : x7_1 < (l0_1.length : Int) := of_decide_eq_true asm_
                  obtain ⟨ad109, e109, hx109_0, hx109_1⟩ := jL HR0_1.out x7_1 p109 q109
                  cases e109
                  replace hx109_0 := (HB.out.cell (World.block_lt_of_cell? w _ hx109_0)).trans hx109_0
                  replace hx109_1 := (HB.out.cell (World.block_lt_of_cell? w _ hx109_1)).trans hx109_1
                  replace p109 := eq_true p109
                  replace q109 := eq_true q109
                  have p110 : 0 ≤ (x7_1 : Int) := of_decide_eq_true asm_
                  have q110 : x7_1 < (l0_1.length : Int) := of_decide_eq_true asm_
                  obtain ⟨ad110, e110, hx110_0, hx110_1⟩ := jL HR0_1.out x7_1 p110 q110
                  obtain rfl : ad109 = ad110 := (by injection e110)
                  replace hx110_0 := (HB.out.cell (World.block_lt_of_cell? w _ hx110_0)).trans hx110_0
                  replace hx110_1 := (HB.out.cell (World.block_lt_of_cell? w _ hx110_1)).trans hx110_1
                  replace p110 := eq_true p110
                  replace q110 := eq_true q110
                  have p111 : 0 ≤ (x7_1 : Int) := of_decide_eq_true asm_
                  have q111 : x7_1 < (l0_1.length : Int) := of_decide_eq_true asm_
                  obtain ⟨ad111, e111, hx111_0, hx111_1⟩ := jL HR0_1.out x7_1 p111 q111
                  obtain rfl : ad109 = ad111 := (by injection e111)
                  replace hx111_0 := (HB.out.cell (World.block_lt_of_cell? w _ hx111_0)).trans hx111_0
                  replace hx111_1 := (HB.out.cell (World.block_lt_of_cell? w _ hx111_1)).trans hx111_1
                  replace p111 := eq_true p111
                  replace q111 := eq_true q111
                  go_wp2
                  repeat (go_quiet (fail); try go_wp2)
                  go_meet
                  case rel => exact ⟨_, (true), (by first | rfl | (simp; done) | (simp [*]; done)), H', ⟨by have := HK1.out; first | omega | exact Nat.le_refl _⟩, ⟨bk_ BK108.out⟩, ⟨by repeat (first | (with_reducible first | exact HB.out | apply iG | apply iD | apply iF | refine iE ?_ GE108.out) | exact HB.out)⟩⟩
                · rw [if_neg c14] at H
                  have c14b0 : decide (a1 ≤ ((iY l0_1 x7_1).f0)) = false := decide_eq_false c14
                  clear c14
                  by_cases c16 : x7_1 = 0
                  · rw [if_pos c16] at H
                    have c16b0 : (x7_1 == 0) = true := beq_iff_eq.mpr c16
                    have c16b1 : (x7_1 != 0) = false := bne_eq_false_iff_eq.mpr c16
                    clear c16
                    have H' := iC.mk H
                    clear H
                    have hcz17_0 : wr.cell? ⟨gb108, 0, none⟩ = some (.int .u32 a0_0) := (iH BK108.out 0).trans rfl
                    have hcz17_1 : wr.cell? ⟨gb108, 1, none⟩ = some (.slice A0_1 l0_1.length c0_1) := (iH BK108.out 1).trans rfl
                    have hfz17_0 := iI BK108.out 0
                    have hfz17_1 := iI BK108.out 1
                    have p109 : 0 ≤ (x7_1 : Int) := of_decide_eq_true asm_
                    have q109 : x7_1 < (l0_1.length : Int) := of_decide_eq_true asm_
                    obtain ⟨ad109, e109, hx109_0, hx109_1⟩ := jL HR0_1.out x7_1 p109 q109
                    cases e109
                    replace hx109_0 := (HB.out.cell (World.block_lt_of_cell? w _ hx109_0)).trans hx109_0
                    replace hx109_1 := (HB.out.cell (World.block_lt_of_cell? w _ hx109_1)).trans hx109_1
                    replace p109 := eq_true p109
                    replace q109 := eq_true q109
                    have p110 : 0 ≤ (x7_1 : Int) := of_decide_eq_true asm_
                    have q110 : x7_1 < (l0_1.length : Int) := of_decide_eq_true asm_
                    obtain ⟨ad110, e110, hx110_0, hx110_1⟩ := jL HR0_1.out x7_1 p110 q110
                    obtain rfl : ad109 = ad110 := (by injection e110)
                    replace hx110_0 := (HB.out.cell (World.block_lt_of_cell? w _ hx110_0)).trans hx110_0
                    replace hx110_1 := (HB.out.cell (World.block_lt_of_cell? w _ hx110_1)).trans hx110_1
                    replace p110 := eq_true p110
                    replace q110 := eq_true q110
                    have p111 : 0 ≤ (x7_1 : Int) := of_decide_eq_true asm_
                    have q111 : x7_1 < (l0_1.length : Int) := of_decide_eq_true asm_
                    obtain ⟨ad111, e111, hx111_0, hx111_1⟩ := jL HR0_1.out x7_1 p111 q111
                    obtain rfl : ad109 = ad111 := (by injection e111)
                    replace hx111_0 := (HB.out.cell (World.block_lt_of_cell? w _ hx111_0)).trans hx111_0
                    replace hx111_1 := (HB.out.cell (World.block_lt_of_cell? w _ hx111_1)).trans hx111_1
                    replace p111 := eq_true p111
                    replace q111 := eq_true q111
                    have p112 : 0 ≤ (x7_1 : Int) := of_decide_eq_true asm_
                    have q112 : x7_1 < (l0_1.length : Int) := of_decide_eq_true asm_
                    obtain ⟨ad112, e112, hx112_0, hx112_1⟩ := jL HR0_1.out x7_1 p112 q112
                    obtain rfl : ad109 = ad112 := (by injection e112)
                    replace hx112_0 := (HB.out.cell (World.block_lt_of_cell? w _ hx112_0)).trans hx112_0
                    replace hx112_1 := (HB.out.cell (World.block_lt_of_cell? w _ hx112_1)).trans hx112_1
                    replace p112 := eq_true p112
                    replace q112 := eq_true q112
                    go_wp2
                    repeat (go_quiet (fail); try go_wp2)
                    go_meet
                    case rel => exact ⟨_, ((((iY l0_1 x7_1).f0) != 0)), (by first | rfl | (simp; done) | (simp [*]; done)), H', ⟨by have := HK1.out; first | omega | exact Nat.le_refl _⟩, ⟨bk_ BK108.out⟩, ⟨by repeat (first | (with_reducible first | exact HB.out | apply iG | apply iD | apply iF | refine iE ?_ GE108.out) | exact HB.out)⟩⟩
                  · rw [if_neg c16] at H
                    have c16b0 : (x7_1 == 0) = false := beq_eq_false_iff_ne.mpr c16
                    have c16b1 : (x7_1 != 0) = true := bne_iff_ne.mpr c16
                    have H' := iC.mk H
                    clear H
                    have hcz18_0 : wr.cell? ⟨gb108, 0, none⟩ = some (.int .u32 a0_0) := (iH BK108.out 0).trans rfl
                    have hcz18_1 : wr.cell? ⟨gb108, 1, none⟩ = some (.slice A0_1 l0_1.length c0_1) := (iH BK108.out 1).trans rfl
                    have hfz18_0 := iI BK108.out 0
                    have hfz18_1 := iI BK108.out 1
                    have p109 : 0 ≤ (x7_1 : Int) := of_decide_eq_true asm_
                    have q109 : x7_1 < (l0_1.length : Int) := of_decide_eq_true asm_
                    obtain ⟨ad109, e109, hx109_0, hx109_1⟩ := jL HR0_1.out x7_1 p109 q109
                    cases e109
                    replace hx109_0 := (HB.out.cell (World.block_lt_of_cell? w _ hx109_0)).trans hx109_0
                    replace hx109_1 := (HB.out.cell (World.block_lt_of_cell? w _ hx109_1)).trans hx109_1
                    replace p109 := eq_true p109
                    replace q109 := eq_true q109
                    have p110 : 0 ≤ (x7_1 : Int) := of_decide_eq_true asm_
                    have q110 : x7_1 < (l0_1.length : Int) := of_decide_eq_true asm_
                    obtain ⟨ad110, e110, hx110_0, hx110_1⟩ := jL HR0_1.out x7_1 p110 q110
                    obtain rfl : ad109 = ad110 := (by injection e110)
                    replace hx110_0 := (HB.out.cell (World.block_lt_of_cell? w _ hx110_0)).trans hx110_0
                    replace hx110_1 := (HB.out.cell (World.block_lt_of_cell? w _ hx110_1)).trans hx110_1
                    replace p110 := eq_true p110
                    replace q110 := eq_true q110
                    have p111 : 0 ≤ (x7_1 : Int) := of_decide_eq_true asm_
                    have q111 : x7_1 < (l0_1.length : Int) := of_decide_eq_true asm_
                    obtain ⟨ad111, e111, hx111_0, hx111_1⟩ := jL HR0_1.out x7_1 p111 q111
                    obtain rfl : ad109 = ad111 := (by injection e111)
                    replace hx111_0 := (HB.out.cell (World.block_lt_of_cell? w _ hx111_0)).trans hx111_0
                    replace hx111_1 := (HB.out.cell (World.block_lt_of_cell? w _ hx111_1)).trans hx111_1
                    replace p111 := eq_true p111
                    replace q111 := eq_true q111
                    go_wp2
                    repeat (go_quiet (fail); try go_wp2)
                    go_meet
                    case rel => exact ⟨_, (false), (by first | rfl | (simp; done) | (simp [*]; done)), H', ⟨by have := HK1.out; first | omega | exact Nat.le_refl _⟩, ⟨bk_ BK108.out⟩, ⟨by repeat (first | (with_reducible first | exact HB.out | apply iG | apply iD | apply iF | refine iE ?_ GE108.out) | exact HB.out)⟩⟩
          · rw [if_neg c8] at H
            exact absurd H (by simp)
        case rest =>
          clear HC6
          try clear c1
          try clear p1
          try clear q1
          try clear hx1
          try clear p2
          try clear c5
          try clear c5b0
          try clear c6
          try clear c8
          try clear c8b0
          try clear c9
          try clear c9b0
          try clear p10
          try clear q10
          try clear hx10
          try clear p11
          try clear q11
          try clear hx11
          try clear c12
          try clear c12b0
          try clear c14
          try clear c14b0
          try clear c16
          try clear c16b0
          try clear c16b1
          try clear hcz10_0
          try clear hcz10_1
          try clear hcz13_0
          try clear hcz13_1
          try clear hcz15_0
          try clear hcz15_1
          try clear hcz17_0
          try clear hcz17_1
          try clear hcz18_0
          try clear hcz18_1
          try clear hcz7_0
          try clear hcz7_1
          try clear hfz10_0
          try clear hfz10_1
          try clear hfz13_0
          try clear hfz13_1
          try clear hfz15_0
          try clear hfz15_1
          try clear hfz17_0
          try clear hfz17_1
          try clear hfz18_0
          try clear hfz18_1
          try clear hfz7_0
          try clear hfz7_1
          try clear hx109_0
          try clear hx109_1
          try clear hx110_0
          try clear hx110_1
          try clear hx111_0
          try clear hx111_1
          try clear hx112_0
          try clear hx112_1
          try clear p109
          try clear p110
          try clear p111
          try clear p112
          try clear p2
          try clear q109
          try clear q110
          try clear q111
          try clear q112
          obtain ⟨kq, x55_5, rfl, HA, HJ5, BK108, HB⟩ := hcut
          cases kq with
          | zero => exact absurd HA.out (by simp [stratumref12_Sound.j1])
          | succ kj5 =>
            have H := HA.out
            clear HA
            simp only [stratumref12_Sound.j1] at H
            by_cases c19 : x55_5 = true
            · subst c19
              have H1 : (some false) = some r := by rw [if_pos rfl] at H; exact H
              clear H
              have H := H1
              clear H1
              obtain rfl := Option.some.inj H
              go_wp2
              repeat (go_quiet (fail); try go_wp2)
              go_ret
              exact ⟨by first | rfl | (simp [iU, iV] <;> rfl) | (simp [*, iU, iV] <;> rfl), by repeat (first | (with_reducible first | exact HB.out | apply iG | apply iD | apply iF | refine iE ?_ GE108.out) | exact HB.out)⟩
            · replace c19 := Bool.eq_false_iff.mpr c19
              subst c19
              have H1 : (if x7_1 > 0 then (if 0 ≤ x7_1 then (if x7_1 < (l0_1.length : Int) then (if 0 ≤ (wrap64 (x7_1 - 1)) then (if (wrap64 (x7_1 - 1)) < (l0_1.length : Int) then (if ((iY l0_1 x7_1).f0) ≤ ((iY l0_1 (wrap64 (x7_1 - 1))).f0) then (some false) else (if ((iY l0_1 x7_1).f1) = ((iY l0_1 (wrap64 (x7_1 - 1))).f1) then (some false) else (stratumref12_Sound.l0 kj5 a1 a2 (wrap64 (x7_1 + 1)) a0_0 l0_1))) else (none)) else (none)) else (none)) else (none)) else (stratumref12_Sound.l0 kj5 a1 a2 (wrap64 (x7_1 + 1)) a0_0 l0_1)) = some r := by rw [if_neg (show ¬ (false = true) by decide)] at H; exact H
              clear H
              have H := H1
              clear H1
              by_cases c20 : x7_1 > 0
              · rw [if_pos c20] at H
                have c20b0 : decide (0 < x7_1) = true := decide_eq_true c20
                clear c20
                by_cases c21 : 0 ≤ x7_1
                · rw [if_pos c21] at H
                  have c21b0 : decide (0 ≤ x7_1) = true := decide_eq_true c21
                  clear c21
                  by_cases c22 : x7_1 < (l0_1.length : Int)
                  · rw [if_pos c22] at H
                    have c22b0 : decide (x7_1 < (l0_1.length : Int)) = true := decide_eq_true c22
                    clear c22
                    obtain ⟨ji23, hji23⟩ : ∃ j_ : Int, (wrap64 (x7_1 - 1)) = j_ := ⟨_, rfl⟩
                    replace H : (if 0 ≤ (ji23) then (if (ji23) < (l0_1.length : Int) then (if ((iY l0_1 x7_1).f0) ≤ ((iY l0_1 (ji23)).f0) then (some false) else (if ((iY l0_1 x7_1).f1) = ((iY l0_1 (ji23)).f1) then (some false) else (stratumref12_Sound.l0 kj5 a1 a2 (wrap64 (x7_1 + 1)) a0_0 l0_1))) else (none)) else (none)) = some r := by first | (rw [hji23] at H; exact H) | (simp only [hji23] at H ⊢; exact H)
                    have hji23w : (IntKind.i64.wrap (x7_1 - 1)) = ji23 := (iR _).trans hji23
                    by_cases c24 : 0 ≤ (ji23)
                    · rw [if_pos c24] at H
                      have c24b0 : decide (0 ≤ (ji23)) = true := decide_eq_true c24
                      clear c24
                      by_cases c25 : (ji23) < (l0_1.length : Int)
                      · rw [if_pos c25] at H
                        have c25b0 : decide ((ji23) < (l0_1.length : Int)) = true := decide_eq_true c25
                        clear c25
                        by_cases c26 : ((iY l0_1 x7_1).f0) ≤ ((iY l0_1 (ji23)).f0)
                        · rw [if_pos c26] at H
                          have c26b0 : decide (((iY l0_1 x7_1).f0) ≤ ((iY l0_1 (ji23)).f0)) = true := decide_eq_true c26
                          clear c26
                          obtain rfl := Option.some.inj H
                          have hcz27_0 : wc.cell? ⟨gb108, 0, none⟩ = some (.int .u32 a0_0) := (iH BK108.out 0).trans rfl
                          have hcz27_1 : wc.cell? ⟨gb108, 1, none⟩ = some (.slice A0_1 l0_1.length c0_1) := (iH BK108.out 1).trans rfl
                          have hfz27_0 := iI BK108.out 0
                          have hfz27_1 := iI BK108.out 1
                          have p113 : 0 ≤ (x7_1 : Int) := of_decide_eq_true asm_
                          have q113 : x7_1 < (l0_1.length : Int) := of_decide_eq_true asm_
                          obtain ⟨ad113, e113, hx113_0, hx113_1⟩ := jL HR0_1.out x7_1 p113 q113
                          cases e113
                          replace hx113_0 := (HB.out.cell (World.block_lt_of_cell? w _ hx113_0)).trans hx113_0
                          replace hx113_1 := (HB.out.cell (World.block_lt_of_cell? w _ hx113_1)).trans hx113_1
                          replace p113 := eq_true p113
                          replace q113 := eq_true q113
                          have p114 : 0 ≤ ((ji23) : Int) := of_decide_eq_true asm_
                          have q114 : (ji23) < (l0_1.length : Int) := of_decide_eq_true asm_
                          obtain ⟨ad114, e114, hx114_0, hx114_1⟩ := jL HR0_1.out (ji23) p114 q114
                          obtain rfl : ad113 = ad114 := (by injection e114)
                          replace hx114_0 := (HB.out.cell (World.block_lt_of_cell? w _ hx114_0)).trans hx114_0
                          replace hx114_1 := (HB.out.cell (World.block_lt_of_cell? w _ hx114_1)).trans hx114_1
                          replace p114 := eq_true p114
                          replace q114 := eq_true q114
                          go_wp2
                          repeat (go_quiet (fail); try go_wp2)
                          go_ret
                          exact ⟨by first | rfl | (simp [iU, iV] <;> rfl) | (simp only [← hji23]; first | rfl | (simp [iU, iV] <;> rfl)) | (simp [*, iU, iV] <;> rfl), by repeat (first | (with_reducible first | exact HB.out | apply iG | apply iD | apply iF | refine iE ?_ GE108.out) | exact HB.out)⟩
                        · rw [if_neg c26] at H
                          have c26b0 : decide (((iY l0_1 x7_1).f0) ≤ ((iY l0_1 (ji23)).f0)) = false := decide_eq_false c26
                          clear c26
                          by_cases c28 : ((iY l0_1 x7_1).f1) = ((iY l0_1 (ji23)).f1)
                          · rw [if_pos c28] at H
                            have c28b0 : (((iY l0_1 x7_1).f1) == ((iY l0_1 (ji23)).f1)) = true := beq_iff_eq.mpr c28
                            have c28b1 : (((iY l0_1 x7_1).f1) != ((iY l0_1 (ji23)).f1)) = false := bne_eq_false_iff_eq.mpr c28
                            clear c28
                            obtain rfl := Option.some.inj H
                            have hcz29_0 : wc.cell? ⟨gb108, 0, none⟩ = some (.int .u32 a0_0) := (iH BK108.out 0).trans rfl
                            have hcz29_1 : wc.cell? ⟨gb108, 1, none⟩ = some (.slice A0_1 l0_1.length c0_1) := (iH BK108.out 1).trans rfl
                            have hfz29_0 := iI BK108.out 0
                            have hfz29_1 := iI BK108.out 1
                            have p113 : 0 ≤ (x7_1 : Int) := of_decide_eq_true asm_
                            have q113 : x7_1 < (l0_1.length : Int) := of_decide_eq_true asm_
                            obtain ⟨ad113, e113, hx113_0, hx113_1⟩ := jL HR0_1.out x7_1 p113 q113
                            cases e113
                            replace hx113_0 := (HB.out.cell (World.block_lt_of_cell? w _ hx113_0)).trans hx113_0
                            replace hx113_1 := (HB.out.cell (World.block_lt_of_cell? w _ hx113_1)).trans hx113_1
                            replace p113 := eq_true p113
                            replace q113 := eq_true q113
                            have p114 : 0 ≤ ((ji23) : Int) := of_decide_eq_true asm_
                            have q114 : (ji23) < (l0_1.length : Int) := of_decide_eq_true asm_
                            obtain ⟨ad114, e114, hx114_0, hx114_1⟩ := jL HR0_1.out (ji23) p114 q114
                            obtain rfl : ad113 = ad114 := (by injection e114)
                            replace hx114_0 := (HB.out.cell (World.block_lt_of_cell? w _ hx114_0)).trans hx114_0
                            replace hx114_1 := (HB.out.cell (World.block_lt_of_cell? w _ hx114_1)).trans hx114_1
                            replace p114 := eq_true p114
                            replace q114 := eq_true q114
                            have p115 : 0 ≤ (x7_1 : Int) := of_decide_eq_true asm_
                            have q115 : x7_1 < (l0_1.length : Int) := of_decide_eq_true asm_
                            obtain ⟨ad115, e115, hx115_0, hx115_1⟩ := jL HR0_1.out x7_1 p115 q115
                            obtain rfl : ad113 = ad115 := (by injection e115)
                            replace hx115_0 := (HB.out.cell (World.block_lt_of_cell? w _ hx115_0)).trans hx115_0
                            replace hx115_1 := (HB.out.cell (World.block_lt_of_cell? w _ hx115_1)).trans hx115_1
                            replace p115 := eq_true p115
                            replace q115 := eq_true q115
                            have p116 : 0 ≤ ((ji23) : Int) := of_decide_eq_true asm_
                            have q116 : (ji23) < (l0_1.length : Int) := of_decide_eq_true asm_
                            obtain ⟨ad116, e116, hx116_0, hx116_1⟩ := jL HR0_1.out (ji23) p116 q116
                            obtain rfl : ad113 = ad116 := (by injection e116)
                            replace hx116_0 := (HB.out.cell (World.block_lt_of_cell? w _ hx116_0)).trans hx116_0
                            replace hx116_1 := (HB.out.cell (World.block_lt_of_cell? w _ hx116_1)).trans hx116_1
                            replace p116 := eq_true p116
                            replace q116 := eq_true q116
                            go_wp2
                            repeat (go_quiet (fail); try go_wp2)
                            go_ret
                            exact ⟨by first | rfl | (simp [iU, iV] <;> rfl) | (simp only [← hji23]; first | rfl | (simp [iU, iV] <;> rfl)) | (simp [*, iU, iV] <;> rfl), by repeat (first | (with_reducible first | exact HB.out | apply iG | apply iD | apply iF | refine iE ?_ GE108.out) | exact HB.out)⟩
                          · rw [if_neg c28] at H
                            have c28b0 : (((iY l0_1 x7_1).f1) == ((iY l0_1 (ji23)).f1)) = false := beq_eq_false_iff_ne.mpr c28
                            have c28b1 : (((iY l0_1 x7_1).f1) != ((iY l0_1 (ji23)).f1)) = true := bne_iff_ne.mpr c28
                            have H' := iC.mk H
                            clear H
                            have hcz30_0 : wc.cell? ⟨gb108, 0, none⟩ = some (.int .u32 a0_0) := (iH BK108.out 0).trans rfl
                            have hcz30_1 : wc.cell? ⟨gb108, 1, none⟩ = some (.slice A0_1 l0_1.length c0_1) := (iH BK108.out 1).trans rfl
                            have hfz30_0 := iI BK108.out 0
                            have hfz30_1 := iI BK108.out 1
                            have p113 : 0 ≤ (x7_1 : Int) := of_decide_eq_true asm_
                            have q113 : x7_1 < (l0_1.length : Int) := of_decide_eq_true asm_
                            obtain ⟨ad113, e113, hx113_0, hx113_1⟩ := jL HR0_1.out x7_1 p113 q113
                            cases e113
                            replace hx113_0 := (HB.out.cell (World.block_lt_of_cell? w _ hx113_0)).trans hx113_0
                            replace hx113_1 := (HB.out.cell (World.block_lt_of_cell? w _ hx113_1)).trans hx113_1
                            replace p113 := eq_true p113
                            replace q113 := eq_true q113
                            have p114 : 0 ≤ ((ji23) : Int) := of_decide_eq_true asm_
                            have q114 : (ji23) < (l0_1.length : Int) := of_decide_eq_true asm_
                            obtain ⟨ad114, e114, hx114_0, hx114_1⟩ := jL HR0_1.out (ji23) p114 q114
                            obtain rfl : ad113 = ad114 := (by injection e114)
                            replace hx114_0 := (HB.out.cell (World.block_lt_of_cell? w _ hx114_0)).trans hx114_0
                            replace hx114_1 := (HB.out.cell (World.block_lt_of_cell? w _ hx114_1)).trans hx114_1
                            replace p114 := eq_true p114
                            replace q114 := eq_true q114
                            have p115 : 0 ≤ (x7_1 : Int) := of_decide_eq_true asm_
                            have q115 : x7_1 < (l0_1.length : Int) := of_decide_eq_true asm_
                            obtain ⟨ad115, e115, hx115_0, hx115_1⟩ := jL HR0_1.out x7_1 p115 q115
                            obtain rfl : ad113 = ad115 := (by injection e115)
                            replace hx115_0 := (HB.out.cell (World.block_lt_of_cell? w _ hx115_0)).trans hx115_0
                            replace hx115_1 := (HB.out.cell (World.block_lt_of_cell? w _ hx115_1)).trans hx115_1
                            replace p115 := eq_true p115
                            replace q115 := eq_true q115
                            have p116 : 0 ≤ ((ji23) : Int) := of_decide_eq_true asm_
                            have q116 : (ji23) < (l0_1.length : Int) := of_decide_eq_true asm_
                            obtain ⟨ad116, e116, hx116_0, hx116_1⟩ := jL HR0_1.out (ji23) p116 q116
                            obtain rfl : ad113 = ad116 := (by injection e116)
                            replace hx116_0 := (HB.out.cell (World.block_lt_of_cell? w _ hx116_0)).trans hx116_0
                            replace hx116_1 := (HB.out.cell (World.block_lt_of_cell? w _ hx116_1)).trans hx116_1
                            replace p116 := eq_true p116
                            replace q116 := eq_true q116
                            go_wp2
                            repeat (go_quiet (fail); try go_wp2)
                            go_roundg kj5
                            case measure => have := HK1.out; have := HJ5.out; omega
                            case rel => exact ⟨(wrap64 (x7_1 + 1)), (by first | rfl | (simp; done) | (simp [*]; done)), H', ⟨by have := HK1.out; have := HJ5.out; omega⟩, ⟨bk_ BK108.out⟩, ⟨by repeat (first | (with_reducible first | exact HB.out | apply iG | apply iD | apply iF | refine iE ?_ GE108.out) | exact HB.out)⟩⟩
                      · rw [if_neg c25] at H
                        exact absurd H (by simp)
                    · rw [if_neg c24] at H
                      exact absurd H (by simp)
                  · rw [if_neg c22] at H
                    exact absurd H (by simp)
                · rw [if_neg c21] at H
                  exact absurd H (by simp)
              · rw [if_neg c20] at H
                have c20b0 : decide (0 < x7_1) = false := decide_eq_false c20
                clear c20
                have H' := iC.mk H
                clear H
                go_wp2
                repeat (go_quiet (fail); try go_wp2)
                go_roundg kj5
                case measure => have := HK1.out; have := HJ5.out; omega
                case rel => exact ⟨(wrap64 (x7_1 + 1)), (by first | rfl | (simp; done) | (simp [*]; done)), H', ⟨by have := HK1.out; have := HJ5.out; omega⟩, ⟨bk_ BK108.out⟩, ⟨by repeat (first | (with_reducible first | exact HB.out | apply iG | apply iD | apply iF | refine iE ?_ GE108.out) | exact HB.out)⟩⟩
      · rw [if_neg c5] at H
        have c5b0 : decide (x7_1 < (l0_1.length : Int)) = false := decide_eq_false c5
        clear c5
        by_cases c31 : (l0_1.length : Int) ≥ 1
        · rw [if_pos c31] at H
          have c31b0 : decide (1 ≤ (l0_1.length : Int)) = true := decide_eq_true c31
          have c31b1 : decide (1 ≤ l0_1.length) = true := decide_eq_true (by omega)
          clear c31
          obtain rfl := Option.some.inj H
          have hcz32_0 : wr.cell? ⟨gb108, 0, none⟩ = some (.int .u32 a0_0) := (iH BK108.out 0).trans rfl
          have hcz32_1 : wr.cell? ⟨gb108, 1, none⟩ = some (.slice A0_1 l0_1.length c0_1) := (iH BK108.out 1).trans rfl
          have hfz32_0 := iI BK108.out 0
          have hfz32_1 := iI BK108.out 1
          go_wp2
          repeat (go_quiet (fail); try go_wp2)
          go_ret
          exact ⟨by first | rfl | (simp [iU, iV] <;> rfl) | (simp [*, iU, iV] <;> rfl), by repeat (first | (with_reducible first | exact HB.out | apply iG | apply iD | apply iF | refine iE ?_ GE108.out) | exact HB.out)⟩
        · rw [if_neg c31] at H
          have c31b0 : decide (1 ≤ (l0_1.length : Int)) = false := decide_eq_false c31
          have c31b1 : decide (1 ≤ l0_1.length) = false := decide_eq_false (by omega)
          clear c31
          obtain rfl := Option.some.inj H
          have hcz33_0 : wr.cell? ⟨gb108, 0, none⟩ = some (.int .u32 a0_0) := (iH BK108.out 0).trans rfl
          have hcz33_1 : wr.cell? ⟨gb108, 1, none⟩ = some (.slice A0_1 l0_1.length c0_1) := (iH BK108.out 1).trans rfl
          have hfz33_0 := iI BK108.out 0
          have hfz33_1 := iI BK108.out 1
          go_wp2
          repeat (go_quiet (fail); try go_wp2)
          go_ret
          exact ⟨by first | rfl | (simp [iU, iV] <;> rfl) | (simp [*, iU, iV] <;> rfl), by repeat (first | (with_reducible first | exact HB.out | apply iG | apply iD | apply iF | refine iE ?_ GE108.out) | exact HB.out)⟩
end Go.Proofs.Ytjppookmjdaplaa.K
end

section
namespace Go.Proofs.Ytjppookmjdaplaa.K
open Go.RowKit Go.Proofs.YtjppookmjdaplaaW.PrintWords Go.Proofs.YtjppookmjdaplaaW.PrintLast Go.Proofs.YtjppookmjdaplaaW.PrintMore
attribute [local go_sem] jQ jP jX jW
mutual
def stratumref12_Split.j0 : Nat → Int → Int → Int → Int → Bool → Int → List (S96) → Option (Int × (List (S96)) × Int)
  | 0, _, _, _, _, _, _, _ => none
  | k + 1, x1, x3, x4, x5, x51, x118000, x118001 => if x51 = true then (some (0, ([] : List (S96)), 120)) else (stratumref12_Split.l0 k x1 x3 x4 x5 false (-1) 0 x118000 x118001 ((x118000 + 1) % 4294967296) ([] : List (S96)))
def stratumref12_Split.l0 : Nat → Int → Int → Int → Int → Bool → Int → Int → Int → List (S96) → Int → List (S96) → Option (Int × (List (S96)) × Int)
  | 0, _, _, _, _, _, _, _, _, _, _, _ => none
  | k + 1, x1, x3, x4, x5, x14, x16, x17, x118000, x118001, x121000, x121001 => if x17 < x1 then ((stratumref12_Find.f k x118000 x118001 x17).bind fun t121 => (if x17 ≥ x3 then (stratumref12_Split.j2 k x1 x3 x4 x5 x14 x16 x17 t121 (decide (x17 < x4)) x118000 x118001 x121000 x121001) else (stratumref12_Split.j2 k x1 x3 x4 x5 x14 x16 x17 t121 false x118000 x118001 x121000 x121001))) else (if x14 = true then (if (x121001.length : Int) > 40 then (some (0, ([] : List (S96)), 3)) else (some (x121000, x121001, 0))) else (some (0, ([] : List (S96)), 120)))
def stratumref12_Split.j2 : Nat → Int → Int → Int → Int → Bool → Int → Int → Int → Bool → Int → List (S96) → Int → List (S96) → Option (Int × (List (S96)) × Int)
  | 0, _, _, _, _, _, _, _, _, _, _, _, _, _ => none
  | k + 1, x1, x3, x4, x5, x14, x16, x17, x18, x72, x118000, x118001, x121000, x121001 => if x72 = true then (if x14 = true then (if x5 = x16 then (stratumref12_Split.l0 k x1 x3 x4 x5 true x16 (wrap64 (x17 + 1)) x118000 x118001 x121000 x121001) else (if x121001.length < 8796093022208 then (stratumref12_Split.l0 k x1 x3 x4 x5 true x5 (wrap64 (x17 + 1)) x118000 x118001 x121000 (x121001 ++ [(⟨x17, x5⟩ : S96)])) else (none))) else (if x5 = x16 then (stratumref12_Split.l0 k x1 x3 x4 x5 (x18 != x5) x16 (wrap64 (x17 + 1)) x118000 x118001 x121000 x121001) else (if x121001.length < 8796093022208 then (stratumref12_Split.l0 k x1 x3 x4 x5 (x18 != x5) x5 (wrap64 (x17 + 1)) x118000 x118001 x121000 (x121001 ++ [(⟨x17, x5⟩ : S96)])) else (none)))) else (if x18 = x16 then (stratumref12_Split.l0 k x1 x3 x4 x5 x14 x16 (wrap64 (x17 + 1)) x118000 x118001 x121000 x121001) else (if x121001.length < 8796093022208 then (stratumref12_Split.l0 k x1 x3 x4 x5 x14 x18 (wrap64 (x17 + 1)) x118000 x118001 x121000 (x121001 ++ [(⟨x17, x18⟩ : S96)])) else (none)))
end
def stratumref12_Split.f (k : Nat) (a0_0 : Int) (l0_1 : List (S96)) (a1 : Int) (a2 : Int) (a3 : Int) (a4 : Int) (a5 : Int) : Option (Int × (List (S96)) × Int) := (stratumref12_Sound.f k a0_0 l0_1 a1 a2).bind fun t119 => (if t119 = true then (if a3 < 0 then (stratumref12_Split.j0 k a1 a3 a4 a5 true a0_0 l0_1) else (if a3 ≥ a4 then (stratumref12_Split.j0 k a1 a3 a4 a5 true a0_0 l0_1) else (if a4 > a1 then (stratumref12_Split.j0 k a1 a3 a4 a5 true a0_0 l0_1) else (if a5 < 0 then (stratumref12_Split.j0 k a1 a3 a4 a5 true a0_0 l0_1) else (if a5 ≥ (mn a2 6) then (stratumref12_Split.j0 k a1 a3 a4 a5 true a0_0 l0_1) else (stratumref12_Split.j0 k a1 a3 a4 a5 (decide (a1 > 10000)) a0_0 l0_1)))))) else (stratumref12_Split.j0 k a1 a3 a4 a5 true a0_0 l0_1))
theorem stratumref12_Split.mono_l : ∀ k, (∀ y0 y1 y2 y3 y4 y5 y6, LeO (stratumref12_Split.j0 k y0 y1 y2 y3 y4 y5 y6) (stratumref12_Split.j0 (k + 1) y0 y1 y2 y3 y4 y5 y6)) ∧ (∀ y0 y1 y2 y3 y4 y5 y6 y7 y8 y9 y10, LeO (stratumref12_Split.l0 k y0 y1 y2 y3 y4 y5 y6 y7 y8 y9 y10) (stratumref12_Split.l0 (k + 1) y0 y1 y2 y3 y4 y5 y6 y7 y8 y9 y10)) ∧ (∀ y0 y1 y2 y3 y4 y5 y6 y7 y8 y9 y10 y11 y12, LeO (stratumref12_Split.j2 k y0 y1 y2 y3 y4 y5 y6 y7 y8 y9 y10 y11 y12) (stratumref12_Split.j2 (k + 1) y0 y1 y2 y3 y4 y5 y6 y7 y8 y9 y10 y11 y12))
  | 0 => ⟨fun _ _ _ _ _ _ _ r h => by simp [stratumref12_Split.j0] at h, fun _ _ _ _ _ _ _ _ _ _ _ r h => by simp [stratumref12_Split.l0] at h, fun _ _ _ _ _ _ _ _ _ _ _ _ _ r h => by simp [stratumref12_Split.j2] at h⟩
  | k + 1 => by
    obtain ⟨ih0, ih1, ih2⟩ := stratumref12_Split.mono_l k
    refine ⟨?_, ?_, ?_⟩
    · intro y0 y1 y2 y3 y4 y5 y6
      unfold stratumref12_Split.j0
      repeat' first
      | (with_reducible exact ih0 _ _ _ _ _ _ _)
      | (with_reducible exact ih1 _ _ _ _ _ _ _ _ _ _ _)
      | (with_reducible exact ih2 _ _ _ _ _ _ _ _ _ _ _ _ _)
      | (with_reducible exact stratumref12_Find.mono _ _ _ _)
      | (with_reducible exact stratumref12_Sound.mono _ _ _ _ _)
      | (with_reducible exact LeO.refl _)
      | (with_reducible exact LeO.none _)
      | (with_reducible refine LeO.ite ?_ ?_)
      | (with_reducible refine LeO.bind ?_ (fun _ => ?_))
      | exact ih0 _ _ _ _ _ _ _
      | exact ih1 _ _ _ _ _ _ _ _ _ _ _
      | exact ih2 _ _ _ _ _ _ _ _ _ _ _ _ _
      | exact stratumref12_Find.mono _ _ _ _
      | exact stratumref12_Sound.mono _ _ _ _ _
      | exact LeO.none _
      | refine LeO.ite ?_ ?_
      | refine LeO.bind ?_ (fun _ => ?_)
    · intro y0 y1 y2 y3 y4 y5 y6 y7 y8 y9 y10
      unfold stratumref12_Split.l0
      repeat' first
      | (with_reducible exact ih0 _ _ _ _ _ _ _)
      | (with_reducible exact ih1 _ _ _ _ _ _ _ _ _ _ _)
      | (with_reducible exact ih2 _ _ _ _ _ _ _ _ _ _ _ _ _)
      | (with_reducible exact stratumref12_Find.mono _ _ _ _)
      | (with_reducible exact stratumref12_Sound.mono _ _ _ _ _)
      | (with_reducible exact LeO.refl _)
      | (with_reducible exact LeO.none _)
      | (with_reducible refine LeO.ite ?_ ?_)
      | (with_reducible refine LeO.bind ?_ (fun _ => ?_))
      | exact ih0 _ _ _ _ _ _ _
      | exact ih1 _ _ _ _ _ _ _ _ _ _ _
      | exact ih2 _ _ _ _ _ _ _ _ _ _ _ _ _
      | exact stratumref12_Find.mono _ _ _ _
      | exact stratumref12_Sound.mono _ _ _ _ _
      | exact LeO.none _
      | refine LeO.ite ?_ ?_
      | refine LeO.bind ?_ (fun _ => ?_)
    · intro y0 y1 y2 y3 y4 y5 y6 y7 y8 y9 y10 y11 y12
      unfold stratumref12_Split.j2
      repeat' first
      | (with_reducible exact ih0 _ _ _ _ _ _ _)
      | (with_reducible exact ih1 _ _ _ _ _ _ _ _ _ _ _)
      | (with_reducible exact ih2 _ _ _ _ _ _ _ _ _ _ _ _ _)
      | (with_reducible exact stratumref12_Find.mono _ _ _ _)
      | (with_reducible exact stratumref12_Sound.mono _ _ _ _ _)
      | (with_reducible exact LeO.refl _)
      | (with_reducible exact LeO.none _)
      | (with_reducible refine LeO.ite ?_ ?_)
      | (with_reducible refine LeO.bind ?_ (fun _ => ?_))
      | exact ih0 _ _ _ _ _ _ _
      | exact ih1 _ _ _ _ _ _ _ _ _ _ _
      | exact ih2 _ _ _ _ _ _ _ _ _ _ _ _ _
      | exact stratumref12_Find.mono _ _ _ _
      | exact stratumref12_Sound.mono _ _ _ _ _
      | exact LeO.none _
      | refine LeO.ite ?_ ?_
      | refine LeO.bind ?_ (fun _ => ?_)
theorem stratumref12_Split.mono : ∀ a0 a1 a2 a3 a4 a5 a6 k, LeO (stratumref12_Split.f k a0 a1 a2 a3 a4 a5 a6) (stratumref12_Split.f (k + 1) a0 a1 a2 a3 a4 a5 a6) := by
  intro a0 a1 a2 a3 a4 a5 a6 k
  obtain ⟨ih0, ih1, ih2⟩ := stratumref12_Split.mono_l k
  unfold stratumref12_Split.f
  repeat' first
      | (with_reducible exact ih0 _ _ _ _ _ _ _)
      | (with_reducible exact ih1 _ _ _ _ _ _ _ _ _ _ _)
      | (with_reducible exact ih2 _ _ _ _ _ _ _ _ _ _ _ _ _)
      | (with_reducible exact stratumref12_Find.mono _ _ _ _)
      | (with_reducible exact stratumref12_Sound.mono _ _ _ _ _)
      | (with_reducible exact LeO.refl _)
      | (with_reducible exact LeO.none _)
      | (with_reducible refine LeO.ite ?_ ?_)
      | (with_reducible refine LeO.bind ?_ (fun _ => ?_))
      | exact ih0 _ _ _ _ _ _ _
      | exact ih1 _ _ _ _ _ _ _ _ _ _ _
      | exact ih2 _ _ _ _ _ _ _ _ _ _ _ _ _
      | exact stratumref12_Find.mono _ _ _ _
      | exact stratumref12_Sound.mono _ _ _ _ _
      | exact LeO.none _
      | refine LeO.ite ?_ ?_
      | refine LeO.bind ?_ (fun _ => ?_)
set_option maxHeartbeats 8000000 in
set_option maxRecDepth 100000 in
theorem stratumref12_Split.calls (k : Nat) (a0_0 : Int) (A0_1 : Option Addr) (c0_1 : Nat) (l0_1 : List (S96)) (a1 : Int) (a2 : Int) (a3 : Int) (a4 : Int) (a5 : Int) (r1 : Int) (r2 : List (S96)) (r3 : Int) (w : World) (hr0_1 : Kd.C k96 w A0_1 l0_1.length l0_1) (hc0_1 : l0_1.length ≤ c0_1) (h : stratumref12_Split.f k a0_0 l0_1 a1 a2 a3 a4 a5 = some (r1, r2, r3)) :
    Calls Try.prog 46 #[.agg #[.int .u32 a0_0, .slice A0_1 l0_1.length c0_1], .int .i64 a1, .int .i64 a2, .int .i64 a3, .int .i64 a4, .int .i64 a5] w fun e w' => ∃ v1_ : Value, e = .returned (.tuple #[.agg #[.int .u32 r1, v1_], .int .i64 r3]) ∧ Kd.R k96 96 w' w.heap.size (fun _ => True) v1_ r2 ∧ Below w.heap.size w w' := by
  have hu42 := Try.underlying42
  have hu96 := Try.underlying96
  have HR0_1 := iC.mk hr0_1
  have HC0_1 := iC.mk hc0_1
  clear hr0_1 hc0_1
  have HB := iC.mk (Below.refl w.heap.size w)
  have H : ((stratumref12_Sound.f k a0_0 l0_1 a1 a2).bind fun t119 => (if t119 = true then (if a3 < 0 then (stratumref12_Split.j0 k a1 a3 a4 a5 true a0_0 l0_1) else (if a3 ≥ a4 then (stratumref12_Split.j0 k a1 a3 a4 a5 true a0_0 l0_1) else (if a4 > a1 then (stratumref12_Split.j0 k a1 a3 a4 a5 true a0_0 l0_1) else (if a5 < 0 then (stratumref12_Split.j0 k a1 a3 a4 a5 true a0_0 l0_1) else (if a5 ≥ (mn a2 6) then (stratumref12_Split.j0 k a1 a3 a4 a5 true a0_0 l0_1) else (stratumref12_Split.j0 k a1 a3 a4 a5 (decide (a1 > 10000)) a0_0 l0_1)))))) else (stratumref12_Split.j0 k a1 a3 a4 a5 true a0_0 l0_1))) = some (r1, r2, r3) := h
  clear h
  have HC7 := iC.mk H
  clear H
  go_enter Try.func46, Try.ntmps46
  go_upto_region 1 with (first | ((with_reducible refine jF (N := 6) rfl ?_); (try (refine jB (by rfl) ?_; dsimp only)); refine jD ?hg (N := 6) ?hd (cs := #[.int .u32 a0_0, .slice A0_1 l0_1.length c0_1]) (t := 42) ?hr ?_; (case hd => rfl); (case hg => rfl); (case hr => first | (go_simp; done) | (go_simp; rfl)); intro gb117 hg w8 hbox hb; have n0_ := iC.mk (iM hb_ hb); have n1_ := iC.mk (hbox); have n2_ := iC.mk ((by rw [hg]; exact (iJ hb_) : w.heap.size ≤ gb117)); have n3_ := iC.mk ((by rw [hg]; exact (iJ hb_) : w.heap.size ≤ gb117)); clear HB; have HB := n0_; have BK117 := n1_; have GW117 := n2_; have GE117 := n3_; clear n0_ n1_ n2_ n3_; clear hb hbox hg) | ((with_reducible refine jF (N := 12) rfl ?_); (try (refine jB (by rfl) ?_; dsimp only)); refine jD ?hg (N := 12) ?hd (cs := #[.int .u32 0, .slice none 0 0]) (t := 42) ?hr ?_; (case hd => rfl); (case hg => rfl); (case hr => first | (go_simp; done) | (go_simp; rfl)); intro gb118 hg w9 hbox hb; have n0_ := iC.mk (iP (g := gb117) (o := .cells #[.int .u32 a0_0, .slice A0_1 l0_1.length c0_1] 42 (0, 0)) (bk_ BK117.out) hb); have n1_ := iC.mk (iM (by repeat (first | (with_reducible first | exact HB.out | apply iG | apply iD | apply iF | refine iE ?_ GE117.out) | exact HB.out)) hb); have n2_ := iC.mk (hbox); have n3_ := iC.mk ((by rw [hg]; exact (iJ (by repeat (first | (with_reducible first | exact HB.out | apply iG | apply iD | apply iF | refine iE ?_ GE117.out) | exact HB.out))) : w.heap.size ≤ gb118)); have n4_ := iC.mk ((by rw [hg]; exact (iJ (by repeat (first | (with_reducible first | exact HB.out | apply iG | apply iD | apply iF | refine iE ?_ GE117.out) | exact HB.out))) : w.heap.size ≤ gb118)); have n5_ := iC.mk ((by rw [hg]; exact Nat.ne_of_lt (jE (g := gb117) (o := .cells #[.int .u32 a0_0, .slice A0_1 l0_1.length c0_1] 42 (0, 0)) (bk_ BK117.out)) : gb117 ≠ gb118)); have n6_ := iC.mk ((by rw [hg]; exact Nat.ne_of_gt (jE (g := gb117) (o := .cells #[.int .u32 a0_0, .slice A0_1 l0_1.length c0_1] 42 (0, 0)) (bk_ BK117.out)) : gb118 ≠ gb117)); clear BK117; clear HB; have BK117 := n0_; have HB := n1_; have BK118 := n2_; have GW118 := n3_; have GE118 := n4_; have NB117_118 := n5_; have NB118_117 := n6_; clear n0_ n1_ n2_ n3_ n4_ n5_ n6_; clear hb hbox hg))
  (try simp only [Act.put, List.setIfInBounds_toArray, List.set_cons_zero, List.set_cons_succ])
  go_cut [51] (fun v51 wc => ∃ (kq : Nat) (x51_6 : Bool), v51 = .bool x51_6 ∧ iC (stratumref12_Split.j0 kq a1 a3 a4 a5 x51_6 a0_0 l0_1 = some (r1, r2, r3)) ∧ iC (kq ≤ k) ∧ iC (wc.heap[gb117]? = some (.cells #[.int .u32 a0_0, (.slice A0_1 l0_1.length c0_1)] 42 (0, 0))) ∧ iC (wc.heap[gb118]? = some (.cells #[.int .u32 0, (.slice none 0 0)] 42 (0, 0))) ∧ iC (Below w.heap.size w wc))
  case first =>
    have H := HC7.out
    clear HC7
    replace H := Option.bind_eq_some_iff.mp H
    obtain ⟨t119, A100, H⟩ := H
    replace H : (if t119 = true then (if a3 < 0 then (stratumref12_Split.j0 k a1 a3 a4 a5 true a0_0 l0_1) else (if a3 ≥ a4 then (stratumref12_Split.j0 k a1 a3 a4 a5 true a0_0 l0_1) else (if a4 > a1 then (stratumref12_Split.j0 k a1 a3 a4 a5 true a0_0 l0_1) else (if a5 < 0 then (stratumref12_Split.j0 k a1 a3 a4 a5 true a0_0 l0_1) else (if a5 ≥ (mn a2 6) then (stratumref12_Split.j0 k a1 a3 a4 a5 true a0_0 l0_1) else (stratumref12_Split.j0 k a1 a3 a4 a5 (decide (a1 > 10000)) a0_0 l0_1)))))) else (stratumref12_Split.j0 k a1 a3 a4 a5 true a0_0 l0_1)) = some (r1, r2, r3) := H
    have A10 := iC.mk A100
    clear A100
    by_cases c11 : t119 = true
    · subst c11
      have H1 : (if a3 < 0 then (stratumref12_Split.j0 k a1 a3 a4 a5 true a0_0 l0_1) else (if a3 ≥ a4 then (stratumref12_Split.j0 k a1 a3 a4 a5 true a0_0 l0_1) else (if a4 > a1 then (stratumref12_Split.j0 k a1 a3 a4 a5 true a0_0 l0_1) else (if a5 < 0 then (stratumref12_Split.j0 k a1 a3 a4 a5 true a0_0 l0_1) else (if a5 ≥ (mn a2 6) then (stratumref12_Split.j0 k a1 a3 a4 a5 true a0_0 l0_1) else (stratumref12_Split.j0 k a1 a3 a4 a5 (decide (a1 > 10000)) a0_0 l0_1)))))) = some (r1, r2, r3) := by rw [if_pos rfl] at H; exact H
      clear H
      have H := H1
      clear H1
      by_cases c12 : a3 < 0
      · rw [if_pos c12] at H
        have c12b0 : decide (a3 < 0) = true := decide_eq_true c12
        clear c12
        (first | rw [c12b0] | (simp only [iR, iT]; rw [c12b0]) | skip)
        have H' := iC.mk H
        clear H
        have hnb13 := NB117_118.out
        have hnc13 := NB118_117.out
        have hcz14_0 : w9.cell? ⟨gb117, 0, none⟩ = some (.int .u32 a0_0) := (iH BK117.out 0).trans rfl
        have hcz14_1 : w9.cell? ⟨gb117, 1, none⟩ = some (.slice A0_1 l0_1.length c0_1) := (iH BK117.out 1).trans rfl
        have hfz14_0 := iI BK117.out 0
        have hfz14_1 := iI BK117.out 1
        go_wp2_with (first | ((with_reducible refine iZ (f := 69) rfl ?_); refine jJ (some 22) rfl rfl Try.func69 (by kernel_rfl) rfl #[.agg #[.int .u32 a0_0, .slice A0_1 l0_1.length c0_1], .int .i64 a1, .int .i64 a2] rfl (by (try simp only [List.map_toArray, List.map_cons, List.map_nil]); first | done | rfl | (simp only [List.length_drop, List.length_take]; rfl)) ?_; (with_reducible refine (stratumref12_Sound.calls k a0_0 _ _ l0_1 a1 a2 true _ ?side1 ?side2 A10.out).mono ?_); (case side1 => repeat (first | exact (Kd.C_below HR0_1.out HB.out) | (with_reducible refine Kd.C_alloc ?_ _) | (with_reducible refine Kd.C_drewN ?_ _) | (with_reducible refine Kd.C_drew ?_))); (case side2 => exact HC0_1.out); rintro e w15 ⟨rfl, hb⟩; refine ⟨_, rfl, ?_⟩; have n0_ := iC.mk (iP (g := gb117) (o := .cells #[.int .u32 a0_0, .slice A0_1 l0_1.length c0_1] 42 (0, 0)) (bk_ BK117.out) hb); have n1_ := iC.mk (iP (g := gb118) (o := .cells #[.int .u32 0, .slice none 0 0] 42 (0, 0)) (bk_ BK118.out) hb); have n2_ := iC.mk (iM (by repeat (first | (with_reducible first | exact HB.out | apply iG | apply iD | apply iF | refine iE ?_ GE117.out | refine iE ?_ GE118.out) | exact HB.out)) hb); clear BK117; clear BK118; clear HB; have BK117 := n0_; have BK118 := n1_; have HB := n2_; clear n0_ n1_ n2_; (try clear hb); (try clear hb2); (try clear hk); (try clear hi)))
        go_meet
        case rel => exact ⟨_, (true), (by first | rfl | (simp; done) | (simp [*]; done)), H', ⟨by first | omega | exact Nat.le_refl _⟩, ⟨bk_ BK117.out⟩, ⟨bk_ BK118.out⟩, ⟨by repeat (first | (with_reducible first | exact HB.out | apply iG | apply iD | apply iF | refine iE ?_ GE117.out | refine iE ?_ GE118.out) | exact HB.out)⟩⟩
      · rw [if_neg c12] at H
        have c12b0 : decide (a3 < 0) = false := decide_eq_false c12
        clear c12
        (first | rw [c12b0] | (simp only [iR, iT]; rw [c12b0]) | skip)
        by_cases c16 : a3 ≥ a4
        · rw [if_pos c16] at H
          have c16b0 : decide (a4 ≤ a3) = true := decide_eq_true c16
          clear c16
          have H' := iC.mk H
          clear H
          have hnb17 := NB117_118.out
          have hnc17 := NB118_117.out
          have hcz18_0 : w9.cell? ⟨gb117, 0, none⟩ = some (.int .u32 a0_0) := (iH BK117.out 0).trans rfl
          have hcz18_1 : w9.cell? ⟨gb117, 1, none⟩ = some (.slice A0_1 l0_1.length c0_1) := (iH BK117.out 1).trans rfl
          have hfz18_0 := iI BK117.out 0
          have hfz18_1 := iI BK117.out 1
          go_wp2_with (first | ((with_reducible refine iZ (f := 69) rfl ?_); refine jJ (some 22) rfl rfl Try.func69 (by kernel_rfl) rfl #[.agg #[.int .u32 a0_0, .slice A0_1 l0_1.length c0_1], .int .i64 a1, .int .i64 a2] rfl (by (try simp only [List.map_toArray, List.map_cons, List.map_nil]); first | done | rfl | (simp only [List.length_drop, List.length_take]; rfl)) ?_; (with_reducible refine (stratumref12_Sound.calls k a0_0 _ _ l0_1 a1 a2 true _ ?side1 ?side2 A10.out).mono ?_); (case side1 => repeat (first | exact (Kd.C_below HR0_1.out HB.out) | (with_reducible refine Kd.C_alloc ?_ _) | (with_reducible refine Kd.C_drewN ?_ _) | (with_reducible refine Kd.C_drew ?_))); (case side2 => exact HC0_1.out); rintro e w19 ⟨rfl, hb⟩; refine ⟨_, rfl, ?_⟩; have n0_ := iC.mk (iP (g := gb117) (o := .cells #[.int .u32 a0_0, .slice A0_1 l0_1.length c0_1] 42 (0, 0)) (bk_ BK117.out) hb); have n1_ := iC.mk (iP (g := gb118) (o := .cells #[.int .u32 0, .slice none 0 0] 42 (0, 0)) (bk_ BK118.out) hb); have n2_ := iC.mk (iM (by repeat (first | (with_reducible first | exact HB.out | apply iG | apply iD | apply iF | refine iE ?_ GE117.out | refine iE ?_ GE118.out) | exact HB.out)) hb); clear BK117; clear BK118; clear HB; have BK117 := n0_; have BK118 := n1_; have HB := n2_; clear n0_ n1_ n2_; (try clear hb); (try clear hb2); (try clear hk); (try clear hi)))
          go_meet
          case rel => exact ⟨_, (true), (by first | rfl | (simp; done) | (simp [*]; done)), H', ⟨by first | omega | exact Nat.le_refl _⟩, ⟨bk_ BK117.out⟩, ⟨bk_ BK118.out⟩, ⟨by repeat (first | (with_reducible first | exact HB.out | apply iG | apply iD | apply iF | refine iE ?_ GE117.out | refine iE ?_ GE118.out) | exact HB.out)⟩⟩
        · rw [if_neg c16] at H
          have c16b0 : decide (a4 ≤ a3) = false := decide_eq_false c16
          clear c16
          by_cases c20 : a4 > a1
          · rw [if_pos c20] at H
            have c20b0 : decide (a1 < a4) = true := decide_eq_true c20
            clear c20
            have H' := iC.mk H
            clear H
            have hnb21 := NB117_118.out
            have hnc21 := NB118_117.out
            have hcz22_0 : w9.cell? ⟨gb117, 0, none⟩ = some (.int .u32 a0_0) := (iH BK117.out 0).trans rfl
            have hcz22_1 : w9.cell? ⟨gb117, 1, none⟩ = some (.slice A0_1 l0_1.length c0_1) := (iH BK117.out 1).trans rfl
            have hfz22_0 := iI BK117.out 0
            have hfz22_1 := iI BK117.out 1
            go_wp2_with (first | ((with_reducible refine iZ (f := 69) rfl ?_); refine jJ (some 22) rfl rfl Try.func69 (by kernel_rfl) rfl #[.agg #[.int .u32 a0_0, .slice A0_1 l0_1.length c0_1], .int .i64 a1, .int .i64 a2] rfl (by (try simp only [List.map_toArray, List.map_cons, List.map_nil]); first | done | rfl | (simp only [List.length_drop, List.length_take]; rfl)) ?_; (with_reducible refine (stratumref12_Sound.calls k a0_0 _ _ l0_1 a1 a2 true _ ?side1 ?side2 A10.out).mono ?_); (case side1 => repeat (first | exact (Kd.C_below HR0_1.out HB.out) | (with_reducible refine Kd.C_alloc ?_ _) | (with_reducible refine Kd.C_drewN ?_ _) | (with_reducible refine Kd.C_drew ?_))); (case side2 => exact HC0_1.out); rintro e w23 ⟨rfl, hb⟩; refine ⟨_, rfl, ?_⟩; have n0_ := iC.mk (iP (g := gb117) (o := .cells #[.int .u32 a0_0, .slice A0_1 l0_1.length c0_1] 42 (0, 0)) (bk_ BK117.out) hb); have n1_ := iC.mk (iP (g := gb118) (o := .cells #[.int .u32 0, .slice none 0 0] 42 (0, 0)) (bk_ BK118.out) hb); have n2_ := iC.mk (iM (by repeat (first | (with_reducible first | exact HB.out | apply iG | apply iD | apply iF | refine iE ?_ GE117.out | refine iE ?_ GE118.out) | exact HB.out)) hb); clear BK117; clear BK118; clear HB; have BK117 := n0_; have BK118 := n1_; have HB := n2_; clear n0_ n1_ n2_; (try clear hb); (try clear hb2); (try clear hk); (try clear hi)))
            go_meet
            case rel => exact ⟨_, (true), (by first | rfl | (simp; done) | (simp [*]; done)), H', ⟨by first | omega | exact Nat.le_refl _⟩, ⟨bk_ BK117.out⟩, ⟨bk_ BK118.out⟩, ⟨by repeat (first | (with_reducible first | exact HB.out | apply iG | apply iD | apply iF | refine iE ?_ GE117.out | refine iE ?_ GE118.out) | exact HB.out)⟩⟩
          · rw [if_neg c20] at H
            have c20b0 : decide (a1 < a4) = false := decide_eq_false c20
            clear c20
            by_cases c24 : a5 < 0
            · rw [if_pos c24] at H
              have c24b0 : decide (a5 < 0) = true := decide_eq_true c24
              clear c24
              have H' := iC.mk H
              clear H
              have hnb25 := NB117_118.out
              have hnc25 := NB118_117.out
              have hcz26_0 : w9.cell? ⟨gb117, 0, none⟩ = some (.int .u32 a0_0) := (iH BK117.out 0).trans rfl
              have hcz26_1 : w9.cell? ⟨gb117, 1, none⟩ = some (.slice A0_1 l0_1.length c0_1) := (iH BK117.out 1).trans rfl
              have hfz26_0 := iI BK117.out 0
              have hfz26_1 := iI BK117.out 1
              go_wp2_with (first | ((with_reducible refine iZ (f := 69) rfl ?_); refine jJ (some 22) rfl rfl Try.func69 (by kernel_rfl) rfl #[.agg #[.int .u32 a0_0, .slice A0_1 l0_1.length c0_1], .int .i64 a1, .int .i64 a2] rfl (by (try simp only [List.map_toArray, List.map_cons, List.map_nil]); first | done | rfl | (simp only [List.length_drop, List.length_take]; rfl)) ?_; (with_reducible refine (stratumref12_Sound.calls k a0_0 _ _ l0_1 a1 a2 true _ ?side1 ?side2 A10.out).mono ?_); (case side1 => repeat (first | exact (Kd.C_below HR0_1.out HB.out) | (with_reducible refine Kd.C_alloc ?_ _) | (with_reducible refine Kd.C_drewN ?_ _) | (with_reducible refine Kd.C_drew ?_))); (case side2 => exact HC0_1.out); rintro e w27 ⟨rfl, hb⟩; refine ⟨_, rfl, ?_⟩; have n0_ := iC.mk (iP (g := gb117) (o := .cells #[.int .u32 a0_0, .slice A0_1 l0_1.length c0_1] 42 (0, 0)) (bk_ BK117.out) hb); have n1_ := iC.mk (iP (g := gb118) (o := .cells #[.int .u32 0, .slice none 0 0] 42 (0, 0)) (bk_ BK118.out) hb); have n2_ := iC.mk (iM (by repeat (first | (with_reducible first | exact HB.out | apply iG | apply iD | apply iF | refine iE ?_ GE117.out | refine iE ?_ GE118.out) | exact HB.out)) hb); clear BK117; clear BK118; clear HB; have BK117 := n0_; have BK118 := n1_; have HB := n2_; clear n0_ n1_ n2_; (try clear hb); (try clear hb2); (try clear hk); (try clear hi)))
              go_meet
              case rel => exact ⟨_, (true), (by first | rfl | (simp; done) | (simp [*]; done)), H', ⟨by first | omega | exact Nat.le_refl _⟩, ⟨bk_ BK117.out⟩, ⟨bk_ BK118.out⟩, ⟨by repeat (first | (with_reducible first | exact HB.out | apply iG | apply iD | apply iF | refine iE ?_ GE117.out | refine iE ?_ GE118.out) | exact HB.out)⟩⟩
            · rw [if_neg c24] at H
              have c24b0 : decide (a5 < 0) = false := decide_eq_false c24
              clear c24
              obtain ⟨ji28, hji28⟩ : ∃ j_ : Int, (mn a2 6) = j_ := ⟨_, rfl⟩
              replace H : (if a5 ≥ (ji28) then (stratumref12_Split.j0 k a1 a3 a4 a5 true a0_0 l0_1) else (stratumref12_Split.j0 k a1 a3 a4 a5 (decide (a1 > 10000)) a0_0 l0_1)) = some (r1, r2, r3) := by first | (rw [hji28] at H; exact H) | (simp only [hji28] at H ⊢; exact H)
              (try rw [hji28] at A10)
              (try (have hji28h : ji28 ≤ 6 := by (rw [← hji28]; unfold mn; (repeat' split) <;> omega)))
              (try (have hji28g : ji28 ≤ 64 := by omega))
              have hji28_ : (if 6 < a2 then 6 else a2) = ji28 := hji28
              by_cases c29 : a5 ≥ (ji28)
              · rw [if_pos c29] at H
                have c29b0 : decide ((ji28) ≤ a5) = true := decide_eq_true c29
                clear c29
                have H' := iC.mk H
                clear H
                have hnb30 := NB117_118.out
                have hnc30 := NB118_117.out
                have hcz31_0 : w9.cell? ⟨gb117, 0, none⟩ = some (.int .u32 a0_0) := (iH BK117.out 0).trans rfl
                have hcz31_1 : w9.cell? ⟨gb117, 1, none⟩ = some (.slice A0_1 l0_1.length c0_1) := (iH BK117.out 1).trans rfl
                have hfz31_0 := iI BK117.out 0
                have hfz31_1 := iI BK117.out 1
                go_wp2_with (first | ((with_reducible refine iZ (f := 69) rfl ?_); refine jJ (some 22) rfl rfl Try.func69 (by kernel_rfl) rfl #[.agg #[.int .u32 a0_0, .slice A0_1 l0_1.length c0_1], .int .i64 a1, .int .i64 a2] rfl (by (try simp only [List.map_toArray, List.map_cons, List.map_nil]); first | done | rfl | (simp only [List.length_drop, List.length_take]; rfl)) ?_; (with_reducible refine (stratumref12_Sound.calls k a0_0 _ _ l0_1 a1 a2 true _ ?side1 ?side2 A10.out).mono ?_); (case side1 => repeat (first | exact (Kd.C_below HR0_1.out HB.out) | (with_reducible refine Kd.C_alloc ?_ _) | (with_reducible refine Kd.C_drewN ?_ _) | (with_reducible refine Kd.C_drew ?_))); (case side2 => exact HC0_1.out); rintro e w32 ⟨rfl, hb⟩; refine ⟨_, rfl, ?_⟩; have n0_ := iC.mk (iP (g := gb117) (o := .cells #[.int .u32 a0_0, .slice A0_1 l0_1.length c0_1] 42 (0, 0)) (bk_ BK117.out) hb); have n1_ := iC.mk (iP (g := gb118) (o := .cells #[.int .u32 0, .slice none 0 0] 42 (0, 0)) (bk_ BK118.out) hb); have n2_ := iC.mk (iM (by repeat (first | (with_reducible first | exact HB.out | apply iG | apply iD | apply iF | refine iE ?_ GE117.out | refine iE ?_ GE118.out) | exact HB.out)) hb); clear BK117; clear BK118; clear HB; have BK117 := n0_; have BK118 := n1_; have HB := n2_; clear n0_ n1_ n2_; (try clear hb); (try clear hb2); (try clear hk); (try clear hi)))
                go_meet
                case rel => exact ⟨_, (true), (by first | rfl | (simp; done) | (simp [*]; done)), H', ⟨by first | omega | exact Nat.le_refl _⟩, ⟨bk_ BK117.out⟩, ⟨bk_ BK118.out⟩, ⟨by repeat (first | (with_reducible first | exact HB.out | apply iG | apply iD | apply iF | refine iE ?_ GE117.out | refine iE ?_ GE118.out) | exact HB.out)⟩⟩
              · rw [if_neg c29] at H
                have c29b0 : decide ((ji28) ≤ a5) = false := decide_eq_false c29
                clear c29
                have H' := iC.mk H
                clear H
                have hnb33 := NB117_118.out
                have hnc33 := NB118_117.out
                have hcz34_0 : w9.cell? ⟨gb117, 0, none⟩ = some (.int .u32 a0_0) := (iH BK117.out 0).trans rfl
                have hcz34_1 : w9.cell? ⟨gb117, 1, none⟩ = some (.slice A0_1 l0_1.length c0_1) := (iH BK117.out 1).trans rfl
                have hfz34_0 := iI BK117.out 0
                have hfz34_1 := iI BK117.out 1
                go_wp2_with (first | ((with_reducible refine iZ (f := 69) rfl ?_); refine jJ (some 22) rfl rfl Try.func69 (by kernel_rfl) rfl #[.agg #[.int .u32 a0_0, .slice A0_1 l0_1.length c0_1], .int .i64 a1, .int .i64 a2] rfl (by (try simp only [List.map_toArray, List.map_cons, List.map_nil]); first | done | rfl | (simp only [List.length_drop, List.length_take]; rfl)) ?_; (with_reducible refine (stratumref12_Sound.calls k a0_0 _ _ l0_1 a1 a2 true _ ?side1 ?side2 A10.out).mono ?_); (case side1 => repeat (first | exact (Kd.C_below HR0_1.out HB.out) | (with_reducible refine Kd.C_alloc ?_ _) | (with_reducible refine Kd.C_drewN ?_ _) | (with_reducible refine Kd.C_drew ?_))); (case side2 => exact HC0_1.out); rintro e w35 ⟨rfl, hb⟩; refine ⟨_, rfl, ?_⟩; have n0_ := iC.mk (iP (g := gb117) (o := .cells #[.int .u32 a0_0, .slice A0_1 l0_1.length c0_1] 42 (0, 0)) (bk_ BK117.out) hb); have n1_ := iC.mk (iP (g := gb118) (o := .cells #[.int .u32 0, .slice none 0 0] 42 (0, 0)) (bk_ BK118.out) hb); have n2_ := iC.mk (iM (by repeat (first | (with_reducible first | exact HB.out | apply iG | apply iD | apply iF | refine iE ?_ GE117.out | refine iE ?_ GE118.out) | exact HB.out)) hb); clear BK117; clear BK118; clear HB; have BK117 := n0_; have BK118 := n1_; have HB := n2_; clear n0_ n1_ n2_; (try clear hb); (try clear hb2); (try clear hk); (try clear hi)))
                go_meet
                case rel => exact ⟨_, (decide (a1 > 10000)), (by first | rfl | (simp; done) | (simp [*]; done)), H', ⟨by first | omega | exact Nat.le_refl _⟩, ⟨bk_ BK117.out⟩, ⟨bk_ BK118.out⟩, ⟨by repeat (first | (with_reducible first | exact HB.out | apply iG | apply iD | apply iF | refine iE ?_ GE117.out | refine iE ?_ GE118.out) | exact HB.out)⟩⟩
    · replace c11 := Bool.eq_false_iff.mpr c11
      subst c11
      have H1 : (stratumref12_Split.j0 k a1 a3 a4 a5 true a0_0 l0_1) = some (r1, r2, r3) := by rw [if_neg (show ¬ (false = true) by decide)] at H; exact H
      clear H
      have H := H1
      clear H1
      have H' := iC.mk H
      clear H
      have hnb36 := NB117_118.out
      have hnc36 := NB118_117.out
      have hcz37_0 : w9.cell? ⟨gb117, 0, none⟩ = some (.int .u32 a0_0) := (iH BK117.out 0).trans rfl
      have hcz37_1 : w9.cell? ⟨gb117, 1, none⟩ = some (.slice A0_1 l0_1.length c0_1) := (iH BK117.out 1).trans rfl
      have hfz37_0 := iI BK117.out 0
      have hfz37_1 := iI BK117.out 1
      go_wp2_with (first | ((with_reducible refine iZ (f := 69) rfl ?_); refine jJ (some 22) rfl rfl Try.func69 (by kernel_rfl) rfl #[.agg #[.int .u32 a0_0, .slice A0_1 l0_1.length c0_1], .int .i64 a1, .int .i64 a2] rfl (by (try simp only [List.map_toArray, List.map_cons, List.map_nil]); first | done | rfl | (simp only [List.length_drop, List.length_take]; rfl)) ?_; (with_reducible refine (stratumref12_Sound.calls k a0_0 _ _ l0_1 a1 a2 false _ ?side1 ?side2 A10.out).mono ?_); (case side1 => repeat (first | exact (Kd.C_below HR0_1.out HB.out) | (with_reducible refine Kd.C_alloc ?_ _) | (with_reducible refine Kd.C_drewN ?_ _) | (with_reducible refine Kd.C_drew ?_))); (case side2 => exact HC0_1.out); rintro e w38 ⟨rfl, hb⟩; refine ⟨_, rfl, ?_⟩; have n0_ := iC.mk (iP (g := gb117) (o := .cells #[.int .u32 a0_0, .slice A0_1 l0_1.length c0_1] 42 (0, 0)) (bk_ BK117.out) hb); have n1_ := iC.mk (iP (g := gb118) (o := .cells #[.int .u32 0, .slice none 0 0] 42 (0, 0)) (bk_ BK118.out) hb); have n2_ := iC.mk (iM (by repeat (first | (with_reducible first | exact HB.out | apply iG | apply iD | apply iF | refine iE ?_ GE117.out | refine iE ?_ GE118.out) | exact HB.out)) hb); clear BK117; clear BK118; clear HB; have BK117 := n0_; have BK118 := n1_; have HB := n2_; clear n0_ n1_ n2_; (try clear hb); (try clear hb2); (try clear hk); (try clear hi)))
      go_meet
      case rel => exact ⟨_, (true), (by first | rfl | (simp; done) | (simp [*]; done)), H', ⟨by first | omega | exact Nat.le_refl _⟩, ⟨bk_ BK117.out⟩, ⟨bk_ BK118.out⟩, ⟨by repeat (first | (with_reducible first | exact HB.out | apply iG | apply iD | apply iF | refine iE ?_ GE117.out | refine iE ?_ GE118.out) | exact HB.out)⟩⟩
  case rest =>
    clear HC7
    try clear c1
    try clear c2
    try clear p2
    try clear c3
    try clear c4
    try clear c6
    try clear c11
    try clear c12
    try clear c12b0
    try clear c13
    try clear c16
    try clear c16b0
    try clear c17
    try clear c20
    try clear c20b0
    try clear c21
    try clear c24
    try clear c24b0
    try clear c25
    try clear c29
    try clear c29b0
    try clear c30
    try clear c33
    try clear c36
    try clear hcz14_0
    try clear hcz14_1
    try clear hcz18_0
    try clear hcz18_1
    try clear hcz22_0
    try clear hcz22_1
    try clear hcz26_0
    try clear hcz26_1
    try clear hcz31_0
    try clear hcz31_1
    try clear hcz34_0
    try clear hcz34_1
    try clear hcz37_0
    try clear hcz37_1
    try clear hfz14_0
    try clear hfz14_1
    try clear hfz18_0
    try clear hfz18_1
    try clear hfz22_0
    try clear hfz22_1
    try clear hfz26_0
    try clear hfz26_1
    try clear hfz31_0
    try clear hfz31_1
    try clear hfz34_0
    try clear hfz34_1
    try clear hfz37_0
    try clear hfz37_1
    obtain ⟨kq, x51_6, rfl, HA, HJ6, BK117, BK118, HB⟩ := hcut
    cases kq with
    | zero => exact absurd HA.out (by simp [stratumref12_Split.j0])
    | succ kj6 =>
      have H := HA.out
      clear HA
      simp only [stratumref12_Split.j0] at H
      by_cases c39 : x51_6 = true
      · subst c39
        have H1 : (some (0, ([] : List (S96)), 120)) = some (r1, r2, r3) := by rw [if_pos rfl] at H; exact H
        clear H
        have H := H1
        clear H1
        simp only [Option.some.injEq, Prod.mk.injEq] at H
        obtain ⟨rfl, rfl, rfl⟩ := H
        have hnb40 := NB118_117.out
        have hnc40 := NB117_118.out
        have hcz41_0 : wc.cell? ⟨gb118, 0, none⟩ = some (.int .u32 0) := (iH BK118.out 0).trans rfl
        have hcz41_1 : wc.cell? ⟨gb118, 1, none⟩ = some (.slice none 0 0) := (iH BK118.out 1).trans rfl
        have hfz41_0 := iI BK118.out 0
        have hfz41_1 := iI BK118.out 1
        go_wp2
        refine bodyPost_ret (kJ rfl _ _ gb118 42 #[.int .u32 0, .slice none 0 0] (0, 0) _ rfl (by (with_reducible repeat (first | refine iL ?_ _ | refine iO ?_ | refine iK ?_ _)); refine jC (cs := #[.int .u32 0, .slice none 0 0]) ?_ 1 _ rfl; (with_reducible repeat (first | refine iL ?_ _ | refine iO ?_ | refine iK ?_ _)); refine jC (cs := #[.int .u32 0, .slice none 0 0]) ?_ 0 _ rfl; (with_reducible repeat (first | refine iL ?_ _ | refine iO ?_ | refine iK ?_ _)); exact BK118.out) Try.underlying42 rfl (by kernel_rfl)) rfl ?_
        exact ⟨_, by first | rfl | (simp [iU, iV] <;> rfl) | (simp [*, iU, iV] <;> rfl), by first | exact Kd.R_nil _ _ _ _ _ | exact Kd.N_nil _ _ _ _ _ | exact Kd.V_nil _ _ _ _ _ | exact Kd.Q_nil _ _ _ _ _ | exact Kd.S_nil _ _ _ _ _, by repeat (first | (with_reducible first | exact HB.out | apply iG | apply iD | apply iF | refine iE ?_ GE117.out | refine iE ?_ GE118.out) | exact HB.out)⟩
      · replace c39 := Bool.eq_false_iff.mpr c39
        subst c39
        have H1 : (stratumref12_Split.l0 kj6 a1 a3 a4 a5 false (-1) 0 a0_0 l0_1 ((a0_0 + 1) % 4294967296) ([] : List (S96))) = some (r1, r2, r3) := by rw [if_neg (show ¬ (false = true) by decide)] at H; exact H
        clear H
        have H := H1
        clear H1
        have H' := iC.mk H
        clear H
        have hnb42 := NB117_118.out
        have hnc42 := NB118_117.out
        have hcz43_0 : wc.cell? ⟨gb117, 0, none⟩ = some (.int .u32 a0_0) := (iH BK117.out 0).trans rfl
        have hcz43_1 : wc.cell? ⟨gb117, 1, none⟩ = some (.slice A0_1 l0_1.length c0_1) := (iH BK117.out 1).trans rfl
        have hfz43_0 := iI BK117.out 0
        have hfz43_1 := iI BK117.out 1
        go_wp2_with (first | ((with_reducible refine jF (N := 15) rfl ?_); (try (refine jB (by rfl) ?_; dsimp only)); refine jD ?hg (N := 15) ?hd (cs := #[.int .u32 0, .slice none 0 0]) (t := 42) ?hr ?_; (case hd => rfl); (case hg => rfl); (case hr => first | (go_simp; done) | (go_simp; rfl)); intro gb120 hg w44 hbox hb; have n0_ := iC.mk (iP (g := gb117) (o := .cells #[.int .u32 a0_0, .slice A0_1 l0_1.length c0_1] 42 (0, 0)) (bk_ BK117.out) hb); have n1_ := iC.mk (iP (g := gb118) (o := .cells #[.int .u32 0, .slice none 0 0] 42 (0, 0)) (bk_ BK118.out) hb); have n2_ := iC.mk (iM (by repeat (first | (with_reducible first | exact HB.out | apply iG | apply iD | apply iF | refine iE ?_ GE117.out | refine iE ?_ GE118.out) | exact HB.out)) hb); have n3_ := iC.mk (hbox); have n4_ := iC.mk ((by rw [hg]; exact (iJ (by repeat (first | (with_reducible first | exact HB.out | apply iG | apply iD | apply iF | refine iE ?_ GE117.out | refine iE ?_ GE118.out) | exact HB.out))) : w.heap.size ≤ gb120)); have n5_ := iC.mk ((by rw [hg]; exact (iJ (by repeat (first | (with_reducible first | exact HB.out | apply iG | apply iD | apply iF | refine iE ?_ GE117.out | refine iE ?_ GE118.out) | exact HB.out))) : w.heap.size ≤ gb120)); have n6_ := iC.mk ((by rw [hg]; exact Nat.ne_of_lt (jE (g := gb117) (o := .cells #[.int .u32 a0_0, .slice A0_1 l0_1.length c0_1] 42 (0, 0)) (bk_ BK117.out)) : gb117 ≠ gb120)); have n7_ := iC.mk ((by rw [hg]; exact Nat.ne_of_gt (jE (g := gb117) (o := .cells #[.int .u32 a0_0, .slice A0_1 l0_1.length c0_1] 42 (0, 0)) (bk_ BK117.out)) : gb120 ≠ gb117)); have n8_ := iC.mk ((by rw [hg]; exact Nat.ne_of_lt (jE (g := gb118) (o := .cells #[.int .u32 0, .slice none 0 0] 42 (0, 0)) (bk_ BK118.out)) : gb118 ≠ gb120)); have n9_ := iC.mk ((by rw [hg]; exact Nat.ne_of_gt (jE (g := gb118) (o := .cells #[.int .u32 0, .slice none 0 0] 42 (0, 0)) (bk_ BK118.out)) : gb120 ≠ gb118)); clear BK117; clear BK118; clear HB; have BK117 := n0_; have BK118 := n1_; have HB := n2_; have BK120 := n3_; have GW120 := n4_; have GE120 := n5_; have NB117_120 := n6_; have NB120_117 := n7_; have NB118_120 := n8_; have NB120_118 := n9_; clear n0_ n1_ n2_ n3_ n4_ n5_ n6_ n7_ n8_ n9_; clear hb hbox hg; have hnb45 := NB120_117.out; have hnc45 := NB117_120.out; have hnb46 := NB120_118.out; have hnc46 := NB118_120.out; have hcz47_0 : w44.cell? ⟨gb120, 0, none⟩ = some (.int .u32 0) := (iH BK120.out 0).trans rfl; have hcz47_1 : w44.cell? ⟨gb120, 1, none⟩ = some (.slice none 0 0) := (iH BK120.out 1).trans rfl; have hfz47_0 := iI BK120.out 0; have hfz47_1 := iI BK120.out 1))
        go_loopg [14, 16, 17] kj6 (fun kq v14 v16 v17 w' => ∃ (x14_2 : Bool) (x16_2 : Int) (x17_2 : Int) (x121001_2 : List (S96)) (u121001 : Value), v14 = .bool x14_2 ∧ v16 = .int .i64 x16_2 ∧ v17 = .int .i64 x17_2 ∧ iC (stratumref12_Split.l0 kq a1 a3 a4 a5 x14_2 x16_2 x17_2 a0_0 l0_1 ((a0_0 + 1) % 4294967296) x121001_2 = some (r1, r2, r3)) ∧ iC (kq ≤ kj6) ∧ iC (Kd.R k96 96 w' w.heap.size (fun _ => True) u121001 x121001_2) ∧ iC (w'.heap[gb117]? = some (.cells #[.int .u32 a0_0, (.slice A0_1 l0_1.length c0_1)] 42 (0, 0))) ∧ iC (w'.heap[gb118]? = some (.cells #[.int .u32 0, (.slice none 0 0)] 42 (0, 0))) ∧ iC (w'.heap[gb120]? = some (.cells #[.int .u32 ((a0_0 + 1) % 4294967296), u121001] 42 (0, 0))) ∧ iC (Below w.heap.size w w'))
        case atStart => exact ⟨(false), ((-1)), (0), (([] : List (S96))), (.slice none 0 0), (by first | rfl | (simp; done) | (simp [*]; done)), (by first | rfl | (simp; done) | (simp [*]; done)), (by first | rfl | (simp; done) | (simp [*]; done)), H', ⟨Nat.le_refl _⟩, ⟨by first | exact Kd.R_nil _ _ _ _ _ | exact Kd.N_nil _ _ _ _ _ | exact Kd.V_nil _ _ _ _ _ | exact Kd.Q_nil _ _ _ _ _ | exact Kd.S_nil _ _ _ _ _⟩, ⟨by (with_reducible repeat (first | refine iL ?_ _ | refine iO ?_ | refine iK ?_ _)); refine jI ?_ NB117_120.out _; (with_reducible repeat (first | refine iL ?_ _ | refine iO ?_ | refine iK ?_ _)); refine jI ?_ NB117_120.out _; (with_reducible repeat (first | refine iL ?_ _ | refine iO ?_ | refine iK ?_ _)); exact BK117.out⟩, ⟨by (with_reducible repeat (first | refine iL ?_ _ | refine iO ?_ | refine iK ?_ _)); refine jI ?_ NB118_120.out _; (with_reducible repeat (first | refine iL ?_ _ | refine iO ?_ | refine iK ?_ _)); refine jI ?_ NB118_120.out _; (with_reducible repeat (first | refine iL ?_ _ | refine iO ?_ | refine iK ?_ _)); exact BK118.out⟩, ⟨by (with_reducible repeat (first | refine iL ?_ _ | refine iO ?_ | refine iK ?_ _)); refine jC (cs := #[.int .u32 ((a0_0 + 1) % 4294967296), .slice none 0 0]) ?_ 1 _ rfl; (with_reducible repeat (first | refine iL ?_ _ | refine iO ?_ | refine iK ?_ _)); refine jC (cs := #[.int .u32 0, .slice none 0 0]) ?_ 0 _ rfl; (with_reducible repeat (first | refine iL ?_ _ | refine iO ?_ | refine iK ?_ _)); exact BK120.out⟩, ⟨by repeat (first | (with_reducible first | exact HB.out | apply iG | apply iD | apply iF | refine iE ?_ GE117.out | refine iE ?_ GE118.out | refine iE ?_ GE120.out) | exact HB.out)⟩⟩
        case round =>
          clear H'
          try clear c1
          try clear c2
          try clear p2
          try clear c3
          try clear c4
          try clear c6
          try clear c11
          try clear c12
          try clear c12b0
          try clear c13
          try clear c16
          try clear c16b0
          try clear c17
          try clear c20
          try clear c20b0
          try clear c21
          try clear c24
          try clear c24b0
          try clear c25
          try clear c29
          try clear c29b0
          try clear c30
          try clear c33
          try clear c36
          try clear c39
          try clear c40
          try clear c42
          try clear c45
          try clear c46
          try clear hcz14_0
          try clear hcz14_1
          try clear hcz18_0
          try clear hcz18_1
          try clear hcz22_0
          try clear hcz22_1
          try clear hcz26_0
          try clear hcz26_1
          try clear hcz31_0
          try clear hcz31_1
          try clear hcz34_0
          try clear hcz34_1
          try clear hcz37_0
          try clear hcz37_1
          try clear hcz41_0
          try clear hcz41_1
          try clear hcz43_0
          try clear hcz43_1
          try clear hcz47_0
          try clear hcz47_1
          try clear hfz14_0
          try clear hfz14_1
          try clear hfz18_0
          try clear hfz18_1
          try clear hfz22_0
          try clear hfz22_1
          try clear hfz26_0
          try clear hfz26_1
          try clear hfz31_0
          try clear hfz31_1
          try clear hfz34_0
          try clear hfz34_1
          try clear hfz37_0
          try clear hfz37_1
          try clear hfz41_0
          try clear hfz41_1
          try clear hfz43_0
          try clear hfz43_1
          try clear hfz47_0
          try clear hfz47_1
          try clear p2
          obtain ⟨x14_2, x16_2, x17_2, x121001_2, u121001, rfl, rfl, rfl, HA, HK2, HO_121001, BK117, BK118, BK120, HB⟩ := hrel
          cases gk with
          | zero => exact absurd HA.out (by simp [stratumref12_Split.l0])
          | succ k2 =>
            have H := HA.out
            clear HA
            simp only [stratumref12_Split.l0] at H
            by_cases c48 : x17_2 < a1
            · rw [if_pos c48] at H
              have c48b0 : decide (x17_2 < a1) = true := decide_eq_true c48
              clear c48
              replace H := Option.bind_eq_some_iff.mp H
              obtain ⟨t121, A490, H⟩ := H
              replace H : (if x17_2 ≥ a3 then (stratumref12_Split.j2 k2 a1 a3 a4 a5 x14_2 x16_2 x17_2 t121 (decide (x17_2 < a4)) a0_0 l0_1 ((a0_0 + 1) % 4294967296) x121001_2) else (stratumref12_Split.j2 k2 a1 a3 a4 a5 x14_2 x16_2 x17_2 t121 false a0_0 l0_1 ((a0_0 + 1) % 4294967296) x121001_2)) = some (r1, r2, r3) := H
              have A49 := iC.mk A490
              clear A490
              have HC50 := iC.mk H
              clear H
              have hnb51 := NB117_118.out
              have hnc51 := NB118_117.out
              have hnb52 := NB117_120.out
              have hnc52 := NB120_117.out
              have hcz53_0 : wr.cell? ⟨gb117, 0, none⟩ = some (.int .u32 a0_0) := (iH BK117.out 0).trans rfl
              have hcz53_1 : wr.cell? ⟨gb117, 1, none⟩ = some (.slice A0_1 l0_1.length c0_1) := (iH BK117.out 1).trans rfl
              have hfz53_0 := iI BK117.out 0
              have hfz53_1 := iI BK117.out 1
              go_upto_region 10 with (first | ((with_reducible refine iZ (f := 56) rfl ?_); refine jJ (some 64) rfl rfl Try.func56 (by kernel_rfl) rfl #[.agg #[.int .u32 a0_0, .slice A0_1 l0_1.length c0_1], .int .i64 x17_2] rfl (by (try simp only [List.map_toArray, List.map_cons, List.map_nil]); first | done | rfl | (simp only [List.length_drop, List.length_take]; rfl)) ?_; (with_reducible refine (stratumref12_Find.calls k2 a0_0 _ _ l0_1 x17_2 t121 _ ?side1 ?side2 A49.out).mono ?_); (case side1 => repeat (first | exact (Kd.C_below HR0_1.out HB.out) | (with_reducible refine Kd.C_alloc ?_ _) | (with_reducible refine Kd.C_drewN ?_ _) | (with_reducible refine Kd.C_drew ?_))); (case side2 => exact HC0_1.out); rintro e w54 ⟨rfl, hb⟩; refine ⟨_, rfl, ?_⟩; have n0_ := iC.mk (Kd.R_below (by (with_reducible repeat (first | apply Kd.R_alloc | apply Kd.R_drewN | apply Kd.R_drew)); exact HO_121001.out) hb); have n1_ := iC.mk (iP (g := gb117) (o := .cells #[.int .u32 a0_0, .slice A0_1 l0_1.length c0_1] 42 (0, 0)) (bk_ BK117.out) hb); have n2_ := iC.mk (iP (g := gb118) (o := .cells #[.int .u32 0, .slice none 0 0] 42 (0, 0)) (bk_ BK118.out) hb); have n3_ := iC.mk (iP (g := gb120) (o := .cells #[.int .u32 ((a0_0 + 1) % 4294967296), u121001] 42 (0, 0)) (bk_ BK120.out) hb); have n4_ := iC.mk (iM (by repeat (first | (with_reducible first | exact HB.out | apply iG | apply iD | apply iF | refine iE ?_ GE117.out | refine iE ?_ GE118.out | refine iE ?_ GE120.out) | exact HB.out)) hb); clear HO_121001; clear BK117; clear BK118; clear BK120; clear HB; have HO_121001 := n0_; have BK117 := n1_; have BK118 := n2_; have BK120 := n3_; have HB := n4_; clear n0_ n1_ n2_ n3_ n4_; (try clear hb); (try clear hb2); (try clear hk); (try clear hi)))
              (try simp only [Act.put, List.setIfInBounds_toArray, List.set_cons_zero, List.set_cons_succ])
              go_cut [72] (fun v72 wc => ∃ (kq : Nat) (x72_49 : Bool), v72 = .bool x72_49 ∧ iC (stratumref12_Split.j2 kq a1 a3 a4 a5 x14_2 x16_2 x17_2 t121 x72_49 a0_0 l0_1 ((a0_0 + 1) % 4294967296) x121001_2 = some (r1, r2, r3)) ∧ iC (kq ≤ k2) ∧ iC (Kd.R k96 96 wc w.heap.size (fun _ => True) u121001 x121001_2) ∧ iC (wc.heap[gb117]? = some (.cells #[.int .u32 a0_0, (.slice A0_1 l0_1.length c0_1)] 42 (0, 0))) ∧ iC (wc.heap[gb118]? = some (.cells #[.int .u32 0, (.slice none 0 0)] 42 (0, 0))) ∧ iC (wc.heap[gb120]? = some (.cells #[.int .u32 ((a0_0 + 1) % 4294967296), u121001] 42 (0, 0))) ∧ iC (Below w.heap.size w wc))
              case first =>
                have H := HC50.out
                clear HC50
                by_cases c55 : x17_2 ≥ a3
                · rw [if_pos c55] at H
                  have c55b0 : decide (a3 ≤ x17_2) = true := decide_eq_true c55
                  clear c55
                  (first | rw [c55b0] | (simp only [iR, iT]; rw [c55b0]) | skip)
                  have H' := iC.mk H
                  clear H
                  go_wp2
                  go_meet
                  case rel => exact ⟨_, (decide (x17_2 < a4)), (by first | rfl | (simp; done) | (simp [*]; done)), H', ⟨by have := HJ6.out; have := HK2.out; first | omega | exact Nat.le_refl _⟩, ⟨by (with_reducible repeat (first | apply Kd.R_alloc | apply Kd.R_drewN | apply Kd.R_drew)); exact HO_121001.out⟩, ⟨bk_ BK117.out⟩, ⟨bk_ BK118.out⟩, ⟨bk_ BK120.out⟩, ⟨by repeat (first | (with_reducible first | exact HB.out | apply iG | apply iD | apply iF | refine iE ?_ GE117.out | refine iE ?_ GE118.out | refine iE ?_ GE120.out) | exact HB.out)⟩⟩
                · rw [if_neg c55] at H
                  have c55b0 : decide (a3 ≤ x17_2) = false := decide_eq_false c55
                  clear c55
                  (first | rw [c55b0] | (simp only [iR, iT]; rw [c55b0]) | skip)
                  have H' := iC.mk H
                  clear H
                  go_wp2
                  go_meet
                  case rel => exact ⟨_, (false), (by first | rfl | (simp; done) | (simp [*]; done)), H', ⟨by have := HJ6.out; have := HK2.out; first | omega | exact Nat.le_refl _⟩, ⟨by (with_reducible repeat (first | apply Kd.R_alloc | apply Kd.R_drewN | apply Kd.R_drew)); exact HO_121001.out⟩, ⟨bk_ BK117.out⟩, ⟨bk_ BK118.out⟩, ⟨bk_ BK120.out⟩, ⟨by repeat (first | (with_reducible first | exact HB.out | apply iG | apply iD | apply iF | refine iE ?_ GE117.out | refine iE ?_ GE118.out | refine iE ?_ GE120.out) | exact HB.out)⟩⟩
              case rest =>
                clear HC50
                try clear c1
                try clear c2
                try clear p2
                try clear c3
                try clear c4
                try clear c5
                try clear c6
                try clear c11
                try clear c12
                try clear c12b0
                try clear c13
                try clear c16
                try clear c16b0
                try clear c17
                try clear c20
                try clear c20b0
                try clear c21
                try clear c24
                try clear c24b0
                try clear c25
                try clear c29
                try clear c29b0
                try clear c30
                try clear c33
                try clear c36
                try clear c39
                try clear c40
                try clear c42
                try clear c45
                try clear c46
                try clear c48
                try clear c48b0
                try clear c51
                try clear c52
                try clear c55
                try clear c55b0
                try clear hcz14_0
                try clear hcz14_1
                try clear hcz18_0
                try clear hcz18_1
                try clear hcz22_0
                try clear hcz22_1
                try clear hcz26_0
                try clear hcz26_1
                try clear hcz31_0
                try clear hcz31_1
                try clear hcz34_0
                try clear hcz34_1
                try clear hcz37_0
                try clear hcz37_1
                try clear hcz41_0
                try clear hcz41_1
                try clear hcz43_0
                try clear hcz43_1
                try clear hcz47_0
                try clear hcz47_1
                try clear hcz53_0
                try clear hcz53_1
                try clear hfz14_0
                try clear hfz14_1
                try clear hfz18_0
                try clear hfz18_1
                try clear hfz22_0
                try clear hfz22_1
                try clear hfz26_0
                try clear hfz26_1
                try clear hfz31_0
                try clear hfz31_1
                try clear hfz34_0
                try clear hfz34_1
                try clear hfz37_0
                try clear hfz37_1
                try clear hfz41_0
                try clear hfz41_1
                try clear hfz43_0
                try clear hfz43_1
                try clear hfz47_0
                try clear hfz47_1
                try clear hfz53_0
                try clear hfz53_1
                try clear p2
                obtain ⟨kq, x72_49, rfl, HA, HJ49, HO_121001, BK117, BK118, BK120, HB⟩ := hcut
                cases kq with
                | zero => exact absurd HA.out (by simp [stratumref12_Split.j2])
                | succ kj49 =>
                  have H := HA.out
                  clear HA
                  simp only [stratumref12_Split.j2] at H
                  by_cases c56 : x72_49 = true
                  · subst c56
                    have H1 : (if x14_2 = true then (if a5 = x16_2 then (stratumref12_Split.l0 kj49 a1 a3 a4 a5 true x16_2 (wrap64 (x17_2 + 1)) a0_0 l0_1 ((a0_0 + 1) % 4294967296) x121001_2) else (if x121001_2.length < 8796093022208 then (stratumref12_Split.l0 kj49 a1 a3 a4 a5 true a5 (wrap64 (x17_2 + 1)) a0_0 l0_1 ((a0_0 + 1) % 4294967296) (x121001_2 ++ [(⟨x17_2, a5⟩ : S96)])) else (none))) else (if a5 = x16_2 then (stratumref12_Split.l0 kj49 a1 a3 a4 a5 (t121 != a5) x16_2 (wrap64 (x17_2 + 1)) a0_0 l0_1 ((a0_0 + 1) % 4294967296) x121001_2) else (if x121001_2.length < 8796093022208 then (stratumref12_Split.l0 kj49 a1 a3 a4 a5 (t121 != a5) a5 (wrap64 (x17_2 + 1)) a0_0 l0_1 ((a0_0 + 1) % 4294967296) (x121001_2 ++ [(⟨x17_2, a5⟩ : S96)])) else (none)))) = some (r1, r2, r3) := by rw [if_pos rfl] at H; exact H
                    clear H
                    have H := H1
                    clear H1
                    by_cases c57 : x14_2 = true
                    · subst c57
                      have H1 : (if a5 = x16_2 then (stratumref12_Split.l0 kj49 a1 a3 a4 a5 true x16_2 (wrap64 (x17_2 + 1)) a0_0 l0_1 ((a0_0 + 1) % 4294967296) x121001_2) else (if x121001_2.length < 8796093022208 then (stratumref12_Split.l0 kj49 a1 a3 a4 a5 true a5 (wrap64 (x17_2 + 1)) a0_0 l0_1 ((a0_0 + 1) % 4294967296) (x121001_2 ++ [(⟨x17_2, a5⟩ : S96)])) else (none))) = some (r1, r2, r3) := by rw [if_pos rfl] at H; exact H
                      clear H
                      have H := H1
                      clear H1
                      by_cases c58 : a5 = x16_2
                      · rw [if_pos c58] at H
                        have c58b0 : (a5 == x16_2) = true := beq_iff_eq.mpr c58
                        have c58b1 : (a5 != x16_2) = false := bne_eq_false_iff_eq.mpr c58
                        clear c58
                        have H' := iC.mk H
                        clear H
                        go_wp2
                        go_roundg kj49
                        case measure => have := HJ6.out; have := HK2.out; have := HJ49.out; omega
                        case rel => exact ⟨(true), (x16_2), (wrap64 (x17_2 + 1)), (x121001_2), (u121001), (by first | rfl | (simp; done) | (simp [*]; done)), (by first | rfl | (simp; done) | (simp [*]; done)), (by first | rfl | (simp; done) | (simp [*]; done)), H', ⟨by have := HJ6.out; have := HK2.out; have := HJ49.out; omega⟩, ⟨by (with_reducible repeat (first | apply Kd.R_alloc | apply Kd.R_drewN | apply Kd.R_drew)); exact HO_121001.out⟩, ⟨bk_ BK117.out⟩, ⟨bk_ BK118.out⟩, ⟨bk_ BK120.out⟩, ⟨by repeat (first | (with_reducible first | exact HB.out | apply iG | apply iD | apply iF | refine iE ?_ GE117.out | refine iE ?_ GE118.out | refine iE ?_ GE120.out) | exact HB.out)⟩⟩
                      · rw [if_neg c58] at H
                        have c58b0 : (a5 == x16_2) = false := beq_eq_false_iff_ne.mpr c58
                        have c58b1 : (a5 != x16_2) = true := bne_iff_ne.mpr c58
                        by_cases c59 : x121001_2.length < 8796093022208
                        · rw [if_pos c59] at H
                          have LMc59 := iC.mk c59
                          clear c59
                          obtain ⟨y122, hy122⟩ : ∃ y_ : List (S96), y_ = (x121001_2 ++ [(⟨x17_2, a5⟩ : S96)]) := ⟨_, rfl⟩
                          replace H : (stratumref12_Split.l0 kj49 a1 a3 a4 a5 true a5 (wrap64 (x17_2 + 1)) a0_0 l0_1 ((a0_0 + 1) % 4294967296) y122) = some (r1, r2, r3) := by first | (rw [hy122]; with_reducible exact H) | (have H2_ := (Option.bind_some _ _).symm.trans H; rw [hy122]; with_reducible exact H2_) | (have H2_ := (Option.bind_some _ _).symm.trans H; with_reducible exact H2_) | with_reducible exact H | (rw [hy122]; exact H) | exact H
                          have Ny122 := iC.mk hy122
                          clear hy122
                          have H' := iC.mk H
                          clear H
                          have hnb60 := NB120_117.out
                          have hnc60 := NB117_120.out
                          have hnb61 := NB120_118.out
                          have hnc61 := NB118_120.out
                          have hcz62_0 : wc.cell? ⟨gb120, 0, none⟩ = some (.int .u32 ((a0_0 + 1) % 4294967296)) := (iH BK120.out 0).trans rfl
                          have hcz62_1 : wc.cell? ⟨gb120, 1, none⟩ = some (u121001) := (iH BK120.out 1).trans rfl
                          have hfz62_0 := iI BK120.out 0
                          have hfz62_1 := iI BK120.out 1
                          go_wp2_with (first | ((with_reducible refine jR (b := .append) (xs := #[.tmp 84, .tmp 88]) rfl ?_); (try (refine jB (by rfl) ?_; dsimp only)); at_builtin; refine Kd.R_append k96 (w0 := w) w.heap.size rfl (.tmp 84) (.tmp 88) 40 96 (.agg #[(.int .i64 0), (.int .i64 0)]) 16 rfl Try.underlying40 mY rfl (by decide) (by omega) u121001 x121001_2 (⟨x17_2, a5⟩ : S96) [.int .i64 x17_2, .int .i64 a5] (fun _ => True) (fun _ => False) rfl rfl ?aP (fun _ hk => hk.elim) ?aF ?aO ?aB ?aS ?aL ?_; (case aP => exact kT _ _ _ (⟨x17_2, a5⟩ : S96)); (case aB => exact (by repeat (first | (with_reducible first | exact HB.out | apply iG | apply iD | apply iF | refine iE ?_ GE117.out | refine iE ?_ GE118.out | refine iE ?_ GE120.out) | exact HB.out))); (case aF => exact (fun _ _ => trivial)); (case aO => exact (by (with_reducible repeat (first | apply Kd.R_alloc | apply Kd.R_drewN | apply Kd.R_drew)); exact HO_121001.out)); (case aS => exact (iJ (by repeat (first | (with_reducible first | exact HB.out | apply iG | apply iD | apply iF | refine iE ?_ GE117.out | refine iE ?_ GE118.out | refine iE ?_ GE120.out) | exact HB.out)))); (case aL => have := LMc59.out; omega); intro v123 w63 ho hb hg hat; rw [← Ny122.out] at ho; have n0_ := iC.mk (jM (g := gb117) (o := .cells #[.int .u32 a0_0, .slice A0_1 l0_1.length c0_1] 42 (0, 0)) (bk_ BK117.out) hg (Kd.R_ne HO_121001.out BK117.out (by decide))); have n1_ := iC.mk (jM (g := gb118) (o := .cells #[.int .u32 0, .slice none 0 0] 42 (0, 0)) (bk_ BK118.out) hg (Kd.R_ne HO_121001.out BK118.out (by decide))); have n2_ := iC.mk (jM (g := gb120) (o := .cells #[.int .u32 ((a0_0 + 1) % 4294967296), u121001] 42 (0, 0)) (bk_ BK120.out) hg (Kd.R_ne HO_121001.out BK120.out (by decide))); have n3_ := iC.mk (hb); have n4_ := iC.mk (ho); clear BK117; clear BK118; clear BK120; clear HB; clear HO_121001; have BK117 := n0_; have BK118 := n1_; have BK120 := n2_; have HB := n3_; have HO124 := n4_; clear n0_ n1_ n2_ n3_ n4_; clear ho hb hg hat; obtain ⟨Ao64, co64, eo64⟩ := Kd.R_slice HO124.out; subst eo64; have hcz65_0 : w63.cell? ⟨gb120, 0, none⟩ = some (.int .u32 ((a0_0 + 1) % 4294967296)) := (iH BK120.out 0).trans rfl; have hcz65_1 : w63.cell? ⟨gb120, 1, none⟩ = some (u121001) := (iH BK120.out 1).trans rfl; have hfz65_0 := iI BK120.out 0; have hfz65_1 := iI BK120.out 1))
                          go_roundg kj49
                          case measure => have := HJ6.out; have := HK2.out; have := HJ49.out; omega
                          case rel => exact ⟨(true), (a5), (wrap64 (x17_2 + 1)), (y122), (.slice Ao64 y122.length co64), (by first | rfl | (simp; done) | (simp [*]; done)), (by first | rfl | (simp; done) | (simp [*]; done)), (by first | rfl | (simp; done) | (simp [*]; done)), H', ⟨by have := HJ6.out; have := HK2.out; have := HJ49.out; omega⟩, ⟨by (with_reducible repeat (first | apply Kd.R_alloc | apply Kd.R_drewN | apply Kd.R_drew)); exact Kd.R_mono (Kd.R_far (p := ⟨gb120, 1, none⟩) (Kd.R_types HO124.out BK120.out (by decide)) (fun _ hk => hk.2) (.slice Ao64 y122.length co64)) (fun _ hk => trivial)⟩, ⟨by (with_reducible repeat (first | refine iL ?_ _ | refine iO ?_ | refine iK ?_ _)); refine jI ?_ NB117_120.out _; (with_reducible repeat (first | refine iL ?_ _ | refine iO ?_ | refine iK ?_ _)); exact BK117.out⟩, ⟨by (with_reducible repeat (first | refine iL ?_ _ | refine iO ?_ | refine iK ?_ _)); refine jI ?_ NB118_120.out _; (with_reducible repeat (first | refine iL ?_ _ | refine iO ?_ | refine iK ?_ _)); exact BK118.out⟩, ⟨by (with_reducible repeat (first | refine iL ?_ _ | refine iO ?_ | refine iK ?_ _)); refine jC (cs := #[.int .u32 ((a0_0 + 1) % 4294967296), u121001]) ?_ 1 _ rfl; (with_reducible repeat (first | refine iL ?_ _ | refine iO ?_ | refine iK ?_ _)); exact BK120.out⟩, ⟨by repeat (first | (with_reducible first | exact HB.out | apply iG | apply iD | apply iF | refine iE ?_ GE117.out | refine iE ?_ GE118.out | refine iE ?_ GE120.out) | exact HB.out)⟩⟩
                        · rw [if_neg c59] at H
                          exact absurd H (by simp)
                    · replace c57 := Bool.eq_false_iff.mpr c57
                      subst c57
                      have H1 : (if a5 = x16_2 then (stratumref12_Split.l0 kj49 a1 a3 a4 a5 (t121 != a5) x16_2 (wrap64 (x17_2 + 1)) a0_0 l0_1 ((a0_0 + 1) % 4294967296) x121001_2) else (if x121001_2.length < 8796093022208 then (stratumref12_Split.l0 kj49 a1 a3 a4 a5 (t121 != a5) a5 (wrap64 (x17_2 + 1)) a0_0 l0_1 ((a0_0 + 1) % 4294967296) (x121001_2 ++ [(⟨x17_2, a5⟩ : S96)])) else (none))) = some (r1, r2, r3) := by rw [if_neg (show ¬ (false = true) by decide)] at H; exact H
                      clear H
                      have H := H1
                      clear H1
                      by_cases c66 : a5 = x16_2
                      · rw [if_pos c66] at H
                        have c66b0 : (a5 == x16_2) = true := beq_iff_eq.mpr c66
                        have c66b1 : (a5 != x16_2) = false := bne_eq_false_iff_eq.mpr c66
                        clear c66
                        have H' := iC.mk H
                        clear H
                        go_wp2
                        go_roundg kj49
                        case measure => have := HJ6.out; have := HK2.out; have := HJ49.out; omega
                        case rel => exact ⟨((t121 != a5)), (x16_2), (wrap64 (x17_2 + 1)), (x121001_2), (u121001), (by first | rfl | (simp; done) | (simp [*]; done)), (by first | rfl | (simp; done) | (simp [*]; done)), (by first | rfl | (simp; done) | (simp [*]; done)), H', ⟨by have := HJ6.out; have := HK2.out; have := HJ49.out; omega⟩, ⟨by (with_reducible repeat (first | apply Kd.R_alloc | apply Kd.R_drewN | apply Kd.R_drew)); exact HO_121001.out⟩, ⟨bk_ BK117.out⟩, ⟨bk_ BK118.out⟩, ⟨bk_ BK120.out⟩, ⟨by repeat (first | (with_reducible first | exact HB.out | apply iG | apply iD | apply iF | refine iE ?_ GE117.out | refine iE ?_ GE118.out | refine iE ?_ GE120.out) | exact HB.out)⟩⟩
                      · rw [if_neg c66] at H
                        have c66b0 : (a5 == x16_2) = false := beq_eq_false_iff_ne.mpr c66
                        have c66b1 : (a5 != x16_2) = true := bne_iff_ne.mpr c66
                        by_cases c67 : x121001_2.length < 8796093022208
                        · rw [if_pos c67] at H
                          have LMc67 := iC.mk c67
                          clear c67
                          obtain ⟨y125, hy125⟩ : ∃ y_ : List (S96), y_ = (x121001_2 ++ [(⟨x17_2, a5⟩ : S96)]) := ⟨_, rfl⟩
                          replace H : (stratumref12_Split.l0 kj49 a1 a3 a4 a5 (t121 != a5) a5 (wrap64 (x17_2 + 1)) a0_0 l0_1 ((a0_0 + 1) % 4294967296) y125) = some (r1, r2, r3) := by first | (rw [hy125]; with_reducible exact H) | (have H2_ := (Option.bind_some _ _).symm.trans H; rw [hy125]; with_reducible exact H2_) | (have H2_ := (Option.bind_some _ _).symm.trans H; with_reducible exact H2_) | with_reducible exact H | (rw [hy125]; exact H) | exact H
                          have Ny125 := iC.mk hy125
                          clear hy125
                          have H' := iC.mk H
                          clear H
                          have hnb68 := NB120_117.out
                          have hnc68 := NB117_120.out
                          have hnb69 := NB120_118.out
                          have hnc69 := NB118_120.out
                          have hcz70_0 : wc.cell? ⟨gb120, 0, none⟩ = some (.int .u32 ((a0_0 + 1) % 4294967296)) := (iH BK120.out 0).trans rfl
                          have hcz70_1 : wc.cell? ⟨gb120, 1, none⟩ = some (u121001) := (iH BK120.out 1).trans rfl
                          have hfz70_0 := iI BK120.out 0
                          have hfz70_1 := iI BK120.out 1
                          go_wp2_with (first | ((with_reducible refine jR (b := .append) (xs := #[.tmp 84, .tmp 88]) rfl ?_); (try (refine jB (by rfl) ?_; dsimp only)); at_builtin; refine Kd.R_append k96 (w0 := w) w.heap.size rfl (.tmp 84) (.tmp 88) 40 96 (.agg #[(.int .i64 0), (.int .i64 0)]) 16 rfl Try.underlying40 mY rfl (by decide) (by omega) u121001 x121001_2 (⟨x17_2, a5⟩ : S96) [.int .i64 x17_2, .int .i64 a5] (fun _ => True) (fun _ => False) rfl rfl ?aP (fun _ hk => hk.elim) ?aF ?aO ?aB ?aS ?aL ?_; (case aP => exact kT _ _ _ (⟨x17_2, a5⟩ : S96)); (case aB => exact (by repeat (first | (with_reducible first | exact HB.out | apply iG | apply iD | apply iF | refine iE ?_ GE117.out | refine iE ?_ GE118.out | refine iE ?_ GE120.out) | exact HB.out))); (case aF => exact (fun _ _ => trivial)); (case aO => exact (by (with_reducible repeat (first | apply Kd.R_alloc | apply Kd.R_drewN | apply Kd.R_drew)); exact HO_121001.out)); (case aS => exact (iJ (by repeat (first | (with_reducible first | exact HB.out | apply iG | apply iD | apply iF | refine iE ?_ GE117.out | refine iE ?_ GE118.out | refine iE ?_ GE120.out) | exact HB.out)))); (case aL => have := LMc67.out; omega); intro v126 w71 ho hb hg hat; rw [← Ny125.out] at ho; have n0_ := iC.mk (jM (g := gb117) (o := .cells #[.int .u32 a0_0, .slice A0_1 l0_1.length c0_1] 42 (0, 0)) (bk_ BK117.out) hg (Kd.R_ne HO_121001.out BK117.out (by decide))); have n1_ := iC.mk (jM (g := gb118) (o := .cells #[.int .u32 0, .slice none 0 0] 42 (0, 0)) (bk_ BK118.out) hg (Kd.R_ne HO_121001.out BK118.out (by decide))); have n2_ := iC.mk (jM (g := gb120) (o := .cells #[.int .u32 ((a0_0 + 1) % 4294967296), u121001] 42 (0, 0)) (bk_ BK120.out) hg (Kd.R_ne HO_121001.out BK120.out (by decide))); have n3_ := iC.mk (hb); have n4_ := iC.mk (ho); clear BK117; clear BK118; clear BK120; clear HB; clear HO_121001; have BK117 := n0_; have BK118 := n1_; have BK120 := n2_; have HB := n3_; have HO127 := n4_; clear n0_ n1_ n2_ n3_ n4_; clear ho hb hg hat; obtain ⟨Ao72, co72, eo72⟩ := Kd.R_slice HO127.out; subst eo72; have hcz73_0 : w71.cell? ⟨gb120, 0, none⟩ = some (.int .u32 ((a0_0 + 1) % 4294967296)) := (iH BK120.out 0).trans rfl; have hcz73_1 : w71.cell? ⟨gb120, 1, none⟩ = some (u121001) := (iH BK120.out 1).trans rfl; have hfz73_0 := iI BK120.out 0; have hfz73_1 := iI BK120.out 1))
                          go_roundg kj49
                          case measure => have := HJ6.out; have := HK2.out; have := HJ49.out; omega
                          case rel => exact ⟨((t121 != a5)), (a5), (wrap64 (x17_2 + 1)), (y125), (.slice Ao72 y125.length co72), (by first | rfl | (simp; done) | (simp [*]; done)), (by first | rfl | (simp; done) | (simp [*]; done)), (by first | rfl | (simp; done) | (simp [*]; done)), H', ⟨by have := HJ6.out; have := HK2.out; have := HJ49.out; omega⟩, ⟨by (with_reducible repeat (first | apply Kd.R_alloc | apply Kd.R_drewN | apply Kd.R_drew)); exact Kd.R_mono (Kd.R_far (p := ⟨gb120, 1, none⟩) (Kd.R_types HO127.out BK120.out (by decide)) (fun _ hk => hk.2) (.slice Ao72 y125.length co72)) (fun _ hk => trivial)⟩, ⟨by (with_reducible repeat (first | refine iL ?_ _ | refine iO ?_ | refine iK ?_ _)); refine jI ?_ NB117_120.out _; (with_reducible repeat (first | refine iL ?_ _ | refine iO ?_ | refine iK ?_ _)); exact BK117.out⟩, ⟨by (with_reducible repeat (first | refine iL ?_ _ | refine iO ?_ | refine iK ?_ _)); refine jI ?_ NB118_120.out _; (with_reducible repeat (first | refine iL ?_ _ | refine iO ?_ | refine iK ?_ _)); exact BK118.out⟩, ⟨by (with_reducible repeat (first | refine iL ?_ _ | refine iO ?_ | refine iK ?_ _)); refine jC (cs := #[.int .u32 ((a0_0 + 1) % 4294967296), u121001]) ?_ 1 _ rfl; (with_reducible repeat (first | refine iL ?_ _ | refine iO ?_ | refine iK ?_ _)); exact BK120.out⟩, ⟨by repeat (first | (with_reducible first | exact HB.out | apply iG | apply iD | apply iF | refine iE ?_ GE117.out | refine iE ?_ GE118.out | refine iE ?_ GE120.out) | exact HB.out)⟩⟩
                        · rw [if_neg c67] at H
                          exact absurd H (by simp)
                  · replace c56 := Bool.eq_false_iff.mpr c56
                    subst c56
                    have H1 : (if t121 = x16_2 then (stratumref12_Split.l0 kj49 a1 a3 a4 a5 x14_2 x16_2 (wrap64 (x17_2 + 1)) a0_0 l0_1 ((a0_0 + 1) % 4294967296) x121001_2) else (if x121001_2.length < 8796093022208 then (stratumref12_Split.l0 kj49 a1 a3 a4 a5 x14_2 t121 (wrap64 (x17_2 + 1)) a0_0 l0_1 ((a0_0 + 1) % 4294967296) (x121001_2 ++ [(⟨x17_2, t121⟩ : S96)])) else (none))) = some (r1, r2, r3) := by rw [if_neg (show ¬ (false = true) by decide)] at H; exact H
                    clear H
                    have H := H1
                    clear H1
                    by_cases c74 : t121 = x16_2
                    · rw [if_pos c74] at H
                      have c74b0 : (t121 == x16_2) = true := beq_iff_eq.mpr c74
                      have c74b1 : (t121 != x16_2) = false := bne_eq_false_iff_eq.mpr c74
                      clear c74
                      have H' := iC.mk H
                      clear H
                      go_wp2
                      go_roundg kj49
                      case measure => have := HJ6.out; have := HK2.out; have := HJ49.out; omega
                      case rel => exact ⟨(x14_2), (x16_2), (wrap64 (x17_2 + 1)), (x121001_2), (u121001), (by first | rfl | (simp; done) | (simp [*]; done)), (by first | rfl | (simp; done) | (simp [*]; done)), (by first | rfl | (simp; done) | (simp [*]; done)), H', ⟨by have := HJ6.out; have := HK2.out; have := HJ49.out; omega⟩, ⟨by (with_reducible repeat (first | apply Kd.R_alloc | apply Kd.R_drewN | apply Kd.R_drew)); exact HO_121001.out⟩, ⟨bk_ BK117.out⟩, ⟨bk_ BK118.out⟩, ⟨bk_ BK120.out⟩, ⟨by repeat (first | (with_reducible first | exact HB.out | apply iG | apply iD | apply iF | refine iE ?_ GE117.out | refine iE ?_ GE118.out | refine iE ?_ GE120.out) | exact HB.out)⟩⟩
                    · rw [if_neg c74] at H
                      have c74b0 : (t121 == x16_2) = false := beq_eq_false_iff_ne.mpr c74
                      have c74b1 : (t121 != x16_2) = true := bne_iff_ne.mpr c74
                      by_cases c75 : x121001_2.length < 8796093022208
                      · rw [if_pos c75] at H
                        have LMc75 := iC.mk c75
                        clear c75
                        obtain ⟨y128, hy128⟩ : ∃ y_ : List (S96), y_ = (x121001_2 ++ [(⟨x17_2, t121⟩ : S96)]) := ⟨_, rfl⟩
                        replace H : (stratumref12_Split.l0 kj49 a1 a3 a4 a5 x14_2 t121 (wrap64 (x17_2 + 1)) a0_0 l0_1 ((a0_0 + 1) % 4294967296) y128) = some (r1, r2, r3) := by first | (rw [hy128]; with_reducible exact H) | (have H2_ := (Option.bind_some _ _).symm.trans H; rw [hy128]; with_reducible exact H2_) | (have H2_ := (Option.bind_some _ _).symm.trans H; with_reducible exact H2_) | with_reducible exact H | (rw [hy128]; exact H) | exact H
                        have Ny128 := iC.mk hy128
                        clear hy128
                        have H' := iC.mk H
                        clear H
                        have hnb76 := NB120_117.out
                        have hnc76 := NB117_120.out
                        have hnb77 := NB120_118.out
                        have hnc77 := NB118_120.out
                        have hcz78_0 : wc.cell? ⟨gb120, 0, none⟩ = some (.int .u32 ((a0_0 + 1) % 4294967296)) := (iH BK120.out 0).trans rfl
                        have hcz78_1 : wc.cell? ⟨gb120, 1, none⟩ = some (u121001) := (iH BK120.out 1).trans rfl
                        have hfz78_0 := iI BK120.out 0
                        have hfz78_1 := iI BK120.out 1
                        go_wp2_with (first | ((with_reducible refine jR (b := .append) (xs := #[.tmp 84, .tmp 88]) rfl ?_); (try (refine jB (by rfl) ?_; dsimp only)); at_builtin; refine Kd.R_append k96 (w0 := w) w.heap.size rfl (.tmp 84) (.tmp 88) 40 96 (.agg #[(.int .i64 0), (.int .i64 0)]) 16 rfl Try.underlying40 mY rfl (by decide) (by omega) u121001 x121001_2 (⟨x17_2, t121⟩ : S96) [.int .i64 x17_2, .int .i64 t121] (fun _ => True) (fun _ => False) rfl rfl ?aP (fun _ hk => hk.elim) ?aF ?aO ?aB ?aS ?aL ?_; (case aP => exact kT _ _ _ (⟨x17_2, t121⟩ : S96)); (case aB => exact (by repeat (first | (with_reducible first | exact HB.out | apply iG | apply iD | apply iF | refine iE ?_ GE117.out | refine iE ?_ GE118.out | refine iE ?_ GE120.out) | exact HB.out))); (case aF => exact (fun _ _ => trivial)); (case aO => exact (by (with_reducible repeat (first | apply Kd.R_alloc | apply Kd.R_drewN | apply Kd.R_drew)); exact HO_121001.out)); (case aS => exact (iJ (by repeat (first | (with_reducible first | exact HB.out | apply iG | apply iD | apply iF | refine iE ?_ GE117.out | refine iE ?_ GE118.out | refine iE ?_ GE120.out) | exact HB.out)))); (case aL => have := LMc75.out; omega); intro v129 w79 ho hb hg hat; rw [← Ny128.out] at ho; have n0_ := iC.mk (jM (g := gb117) (o := .cells #[.int .u32 a0_0, .slice A0_1 l0_1.length c0_1] 42 (0, 0)) (bk_ BK117.out) hg (Kd.R_ne HO_121001.out BK117.out (by decide))); have n1_ := iC.mk (jM (g := gb118) (o := .cells #[.int .u32 0, .slice none 0 0] 42 (0, 0)) (bk_ BK118.out) hg (Kd.R_ne HO_121001.out BK118.out (by decide))); have n2_ := iC.mk (jM (g := gb120) (o := .cells #[.int .u32 ((a0_0 + 1) % 4294967296), u121001] 42 (0, 0)) (bk_ BK120.out) hg (Kd.R_ne HO_121001.out BK120.out (by decide))); have n3_ := iC.mk (hb); have n4_ := iC.mk (ho); clear BK117; clear BK118; clear BK120; clear HB; clear HO_121001; have BK117 := n0_; have BK118 := n1_; have BK120 := n2_; have HB := n3_; have HO130 := n4_; clear n0_ n1_ n2_ n3_ n4_; clear ho hb hg hat; obtain ⟨Ao80, co80, eo80⟩ := Kd.R_slice HO130.out; subst eo80; have hcz81_0 : w79.cell? ⟨gb120, 0, none⟩ = some (.int .u32 ((a0_0 + 1) % 4294967296)) := (iH BK120.out 0).trans rfl; have hcz81_1 : w79.cell? ⟨gb120, 1, none⟩ = some (u121001) := (iH BK120.out 1).trans rfl; have hfz81_0 := iI BK120.out 0; have hfz81_1 := iI BK120.out 1))
                        go_roundg kj49
                        case measure => have := HJ6.out; have := HK2.out; have := HJ49.out; omega
                        case rel => exact ⟨(x14_2), (t121), (wrap64 (x17_2 + 1)), (y128), (.slice Ao80 y128.length co80), (by first | rfl | (simp; done) | (simp [*]; done)), (by first | rfl | (simp; done) | (simp [*]; done)), (by first | rfl | (simp; done) | (simp [*]; done)), H', ⟨by have := HJ6.out; have := HK2.out; have := HJ49.out; omega⟩, ⟨by (with_reducible repeat (first | apply Kd.R_alloc | apply Kd.R_drewN | apply Kd.R_drew)); exact Kd.R_mono (Kd.R_far (p := ⟨gb120, 1, none⟩) (Kd.R_types HO130.out BK120.out (by decide)) (fun _ hk => hk.2) (.slice Ao80 y128.length co80)) (fun _ hk => trivial)⟩, ⟨by (with_reducible repeat (first | refine iL ?_ _ | refine iO ?_ | refine iK ?_ _)); refine jI ?_ NB117_120.out _; (with_reducible repeat (first | refine iL ?_ _ | refine iO ?_ | refine iK ?_ _)); exact BK117.out⟩, ⟨by (with_reducible repeat (first | refine iL ?_ _ | refine iO ?_ | refine iK ?_ _)); refine jI ?_ NB118_120.out _; (with_reducible repeat (first | refine iL ?_ _ | refine iO ?_ | refine iK ?_ _)); exact BK118.out⟩, ⟨by (with_reducible repeat (first | refine iL ?_ _ | refine iO ?_ | refine iK ?_ _)); refine jC (cs := #[.int .u32 ((a0_0 + 1) % 4294967296), u121001]) ?_ 1 _ rfl; (with_reducible repeat (first | refine iL ?_ _ | refine iO ?_ | refine iK ?_ _)); exact BK120.out⟩, ⟨by repeat (first | (with_reducible first | exact HB.out | apply iG | apply iD | apply iF | refine iE ?_ GE117.out | refine iE ?_ GE118.out | refine iE ?_ GE120.out) | exact HB.out)⟩⟩
                      · rw [if_neg c75] at H
                        exact absurd H (by simp)
            · rw [if_neg c48] at H
              have c48b0 : decide (x17_2 < a1) = false := decide_eq_false c48
              clear c48
              by_cases c82 : x14_2 = true
              · subst c82
                have H1 : (if (x121001_2.length : Int) > 40 then (some (0, ([] : List (S96)), 3)) else (some (((a0_0 + 1) % 4294967296), x121001_2, 0))) = some (r1, r2, r3) := by rw [if_pos rfl] at H; exact H
                clear H
                have H := H1
                clear H1
                by_cases c83 : (x121001_2.length : Int) > 40
                · rw [if_pos c83] at H
                  have c83b0 : decide (40 < (x121001_2.length : Int)) = true := decide_eq_true c83
                  have c83b1 : decide (40 < x121001_2.length) = true := decide_eq_true (by omega)
                  clear c83
                  simp only [Option.some.injEq, Prod.mk.injEq] at H
                  obtain ⟨rfl, rfl, rfl⟩ := H
                  have hnb84 := NB120_117.out
                  have hnc84 := NB117_120.out
                  have hnb85 := NB120_118.out
                  have hnc85 := NB118_120.out
                  have hcz86_0 : wr.cell? ⟨gb120, 0, none⟩ = some (.int .u32 ((a0_0 + 1) % 4294967296)) := (iH BK120.out 0).trans rfl
                  have hcz86_1 : wr.cell? ⟨gb120, 1, none⟩ = some (u121001) := (iH BK120.out 1).trans rfl
                  have hfz86_0 := iI BK120.out 0
                  have hfz86_1 := iI BK120.out 1
                  obtain ⟨Ao87, co87, eo87⟩ := Kd.R_slice HO_121001.out
                  subst eo87
                  have hnb88 := NB118_117.out
                  have hnc88 := NB117_118.out
                  have hcz89_0 : wr.cell? ⟨gb118, 0, none⟩ = some (.int .u32 0) := (iH BK118.out 0).trans rfl
                  have hcz89_1 : wr.cell? ⟨gb118, 1, none⟩ = some (.slice none 0 0) := (iH BK118.out 1).trans rfl
                  have hfz89_0 := iI BK118.out 0
                  have hfz89_1 := iI BK118.out 1
                  go_wp2
                  refine bodyPost_ret (kJ rfl _ _ gb118 42 #[.int .u32 0, .slice none 0 0] (0, 0) _ rfl (by (with_reducible repeat (first | refine iL ?_ _ | refine iO ?_ | refine iK ?_ _)); refine jC (cs := #[.int .u32 0, .slice none 0 0]) ?_ 1 _ rfl; (with_reducible repeat (first | refine iL ?_ _ | refine iO ?_ | refine iK ?_ _)); refine jC (cs := #[.int .u32 0, .slice none 0 0]) ?_ 0 _ rfl; (with_reducible repeat (first | refine iL ?_ _ | refine iO ?_ | refine iK ?_ _)); exact BK118.out) Try.underlying42 rfl (by kernel_rfl)) rfl ?_
                  exact ⟨_, by first | rfl | (simp [iU, iV] <;> rfl) | (simp [*, iU, iV] <;> rfl), by first | exact Kd.R_nil _ _ _ _ _ | exact Kd.N_nil _ _ _ _ _ | exact Kd.V_nil _ _ _ _ _ | exact Kd.Q_nil _ _ _ _ _ | exact Kd.S_nil _ _ _ _ _, by repeat (first | (with_reducible first | exact HB.out | apply iG | apply iD | apply iF | refine iE ?_ GE117.out | refine iE ?_ GE118.out | refine iE ?_ GE120.out) | exact HB.out)⟩
                · rw [if_neg c83] at H
                  have c83b0 : decide (40 < (x121001_2.length : Int)) = false := decide_eq_false c83
                  have c83b1 : decide (40 < x121001_2.length) = false := decide_eq_false (by omega)
                  clear c83
                  simp only [Option.some.injEq, Prod.mk.injEq] at H
                  obtain ⟨rfl, rfl, rfl⟩ := H
                  have hnb90 := NB120_117.out
                  have hnc90 := NB117_120.out
                  have hnb91 := NB120_118.out
                  have hnc91 := NB118_120.out
                  have hcz92_0 : wr.cell? ⟨gb120, 0, none⟩ = some (.int .u32 ((a0_0 + 1) % 4294967296)) := (iH BK120.out 0).trans rfl
                  have hcz92_1 : wr.cell? ⟨gb120, 1, none⟩ = some (u121001) := (iH BK120.out 1).trans rfl
                  have hfz92_0 := iI BK120.out 0
                  have hfz92_1 := iI BK120.out 1
                  obtain ⟨Ao93, co93, eo93⟩ := Kd.R_slice HO_121001.out
                  subst eo93
                  have hnb94 := NB118_117.out
                  have hnc94 := NB117_118.out
                  have hcz95_0 : wr.cell? ⟨gb118, 0, none⟩ = some (.int .u32 0) := (iH BK118.out 0).trans rfl
                  have hcz95_1 : wr.cell? ⟨gb118, 1, none⟩ = some (.slice none 0 0) := (iH BK118.out 1).trans rfl
                  have hfz95_0 := iI BK118.out 0
                  have hfz95_1 := iI BK118.out 1
                  go_wp2
                  refine bodyPost_ret (kJ rfl _ _ gb118 42 #[.int .u32 ((a0_0 + 1) % 4294967296), .slice Ao93 x121001_2.length co93] (0, 0) _ rfl (by (with_reducible repeat (first | refine iL ?_ _ | refine iO ?_ | refine iK ?_ _)); refine jC (cs := #[.int .u32 ((a0_0 + 1) % 4294967296), .slice none 0 0]) ?_ 1 _ rfl; (with_reducible repeat (first | refine iL ?_ _ | refine iO ?_ | refine iK ?_ _)); refine jC (cs := #[.int .u32 0, .slice none 0 0]) ?_ 0 _ rfl; (with_reducible repeat (first | refine iL ?_ _ | refine iO ?_ | refine iK ?_ _)); exact BK118.out) Try.underlying42 rfl (by kernel_rfl)) rfl ?_
                  exact ⟨_, by first | rfl | (simp [iU, iV] <;> rfl) | (simp [*, iU, iV] <;> rfl), by (with_reducible repeat (first | apply Kd.R_alloc | apply Kd.R_drewN | apply Kd.R_drew)); exact Kd.R_mono (Kd.R_far (p := ⟨gb118, 1, none⟩) (Kd.R_far (p := ⟨gb118, 0, none⟩) (Kd.R_types HO_121001.out BK118.out (by decide)) (fun _ hk => hk.2) (.int .u32 ((a0_0 + 1) % 4294967296))) (fun _ hk => hk.2) (.slice Ao93 x121001_2.length co93)) (fun _ hk => trivial), by repeat (first | (with_reducible first | exact HB.out | apply iG | apply iD | apply iF | refine iE ?_ GE117.out | refine iE ?_ GE118.out | refine iE ?_ GE120.out) | exact HB.out)⟩
              · replace c82 := Bool.eq_false_iff.mpr c82
                subst c82
                have H1 : (some (0, ([] : List (S96)), 120)) = some (r1, r2, r3) := by rw [if_neg (show ¬ (false = true) by decide)] at H; exact H
                clear H
                have H := H1
                clear H1
                simp only [Option.some.injEq, Prod.mk.injEq] at H
                obtain ⟨rfl, rfl, rfl⟩ := H
                have hnb96 := NB118_117.out
                have hnc96 := NB117_118.out
                have hnb97 := NB118_120.out
                have hnc97 := NB120_118.out
                have hcz98_0 : wr.cell? ⟨gb118, 0, none⟩ = some (.int .u32 0) := (iH BK118.out 0).trans rfl
                have hcz98_1 : wr.cell? ⟨gb118, 1, none⟩ = some (.slice none 0 0) := (iH BK118.out 1).trans rfl
                have hfz98_0 := iI BK118.out 0
                have hfz98_1 := iI BK118.out 1
                go_wp2
                refine bodyPost_ret (kJ rfl _ _ gb118 42 #[.int .u32 0, .slice none 0 0] (0, 0) _ rfl (by (with_reducible repeat (first | refine iL ?_ _ | refine iO ?_ | refine iK ?_ _)); refine jC (cs := #[.int .u32 0, .slice none 0 0]) ?_ 1 _ rfl; (with_reducible repeat (first | refine iL ?_ _ | refine iO ?_ | refine iK ?_ _)); refine jC (cs := #[.int .u32 0, .slice none 0 0]) ?_ 0 _ rfl; (with_reducible repeat (first | refine iL ?_ _ | refine iO ?_ | refine iK ?_ _)); exact BK118.out) Try.underlying42 rfl (by kernel_rfl)) rfl ?_
                exact ⟨_, by first | rfl | (simp [iU, iV] <;> rfl) | (simp [*, iU, iV] <;> rfl), by first | exact Kd.R_nil _ _ _ _ _ | exact Kd.N_nil _ _ _ _ _ | exact Kd.V_nil _ _ _ _ _ | exact Kd.Q_nil _ _ _ _ _ | exact Kd.S_nil _ _ _ _ _, by repeat (first | (with_reducible first | exact HB.out | apply iG | apply iD | apply iF | refine iE ?_ GE117.out | refine iE ?_ GE118.out | refine iE ?_ GE120.out) | exact HB.out)⟩
end Go.Proofs.Ytjppookmjdaplaa.K
end

section
namespace Go.Proofs.Ytjppookmjdaplaa.K
open Go Go.RowKit Go.Proofs.YtjppookmjdaplaaW.PrintWords Go.Proofs.YtjppookmjdaplaaW.PrintLast Go.Proofs.YtjppookmjdaplaaW.PrintMore
theorem oQ (m a : Int) (l : List TSp) (hl : (l.length : Int) ≤ 1000000) :
    ∀ (k i : Nat) (d : Int), i ≤ l.length → l.length - i < k → stratumref12_Find.l0 k m d i a l = some (fd d (l.drop i) m)
  | 0, _, _, _, h => by omega
  | k + 1, i, d, hi, hki => by
    rw [stratumref12_Find.l0]
    by_cases hlt : i < l.length
    · rw [if_pos (by omega), if_pos (by omega), lV l i hlt, drop_cons l i hlt, lG i (by omega), kY]
      by_cases h1 : l[i].f0 ≤ m
      · rw [if_pos h1, if_pos h1]; exact oQ m a l hl k (i + 1) _ (by omega) (by omega)
      · rw [if_neg h1, if_neg h1]; exact oQ m a l hl k (i + 1) _ (by omega) (by omega)
    · rw [if_neg (by omega), List.drop_eq_nil_of_le (by omega)]; rfl
theorem oP (k : Nat) (a : Int) (l : List TSp) (m : Int) (hl : (l.length : Int) ≤ 1000000) (hk : l.length < k) : stratumref12_Find.f k a l m = some (jY l m) := by
  unfold stratumref12_Find.f
  rw [lQ]
  exact oQ m a l hl k 0 (-1) (by omega) (by omega)
/-- Is any member of the range another's, from v on, n members? -/
def oth (l : List TSp) (fr tt node : Int) : Int → Nat → Bool
  | _, 0 => false
  | v, n + 1 => (decide (fr ≤ v ∧ v < tt) && (jY l v != node)) || oth l fr tt node (v + 1) n
def rEnd (e : Int) (o : Bool) (L : List TSp) : Int × List TSp × Int := if o = true then (if (L.length : Int) > 40 then (0, [], 3) else (e, L, 0)) else (0, [], 120)
theorem qJ (a size fr tt node e : Int) (l : List TSp) (hl : (l.length : Int) ≤ 1000000) (hsz : size ≤ 10000) :
    ∀ (n k : Nat) (o : Bool) (last v : Int) (out : List TSp), size = v + n → 0 ≤ v → 2 * n + l.length + 5 < k → (out.length : Int) ≤ v →
      stratumref12_Split.l0 k size fr tt node o last v a l e out = some (rEnd e (o || oth l fr tt node v n) (out ++ cn (mv l fr tt node) last v n))
  | 0, k, o, last, v, out, hs, hv, hk, ho => by
    obtain ⟨k, rfl⟩ : ∃ j, k = j + 1 := ⟨k - 1, by omega⟩
    rw [stratumref12_Split.l0, if_neg (by omega)]
    unfold rEnd
    simp only [oth, cn, Bool.or_false, List.append_nil]
    split
    · split <;> rfl
    · rfl
  | n + 1, k, o, last, v, out, hs, hv, hk, ho => by
    obtain ⟨k, rfl⟩ : ∃ j, k = j + 2 := ⟨k - 2, by omega⟩
    have ih := fun o last out h => qJ a size fr tt node e l hl hsz n k o last (v + 1) out (by omega) (by omega) (by omega) h
    have hw : wrap64 (v + 1) = v + 1 := by unfold wrap64; omega
    rw [stratumref12_Split.l0, if_pos (by omega), oP _ _ _ _ hl (by omega)]
    simp only [Option.bind_some, hw, oth, cn]
    by_cases hr : fr ≤ v ∧ v < tt
    · have hm : mv l fr tt node v = node := by unfold mv; rw [if_pos hr]
      rw [if_pos hr.1, decide_eq_true hr.2, stratumref12_Split.j2, if_pos rfl, hm, decide_eq_true hr]
      simp only [hw, Bool.true_and]
      cases o
      · rw [if_neg (by decide)]
        by_cases he : node = last
        · rw [if_pos he, if_pos he, ih _ _ _ (by omega), Bool.false_or]
        · rw [if_neg he, if_neg he, if_pos (by omega), ih _ _ _ (by simp; omega), Bool.false_or, List.append_assoc]; rfl
      · rw [if_pos rfl]
        by_cases he : node = last
        · rw [if_pos he, if_pos he, ih _ _ _ (by omega)]; simp
        · rw [if_neg he, if_neg he, if_pos (by omega), ih _ _ _ (by simp; omega), List.append_assoc]; simp
    · have hm : mv l fr tt node v = jY l v := by unfold mv; rw [if_neg hr]
      have hj : (if v ≥ fr then stratumref12_Split.j2 (k + 1) size fr tt node o last v (jY l v) (decide (v < tt)) a l e out else stratumref12_Split.j2 (k + 1) size fr tt node o last v (jY l v) false a l e out) = stratumref12_Split.j2 (k + 1) size fr tt node o last v (jY l v) false a l e out := by
        by_cases h1 : v ≥ fr
        · rw [if_pos h1, decide_eq_false (fun h2 => hr ⟨h1, h2⟩)]
        · rw [if_neg h1]
      rw [hj, stratumref12_Split.j2, if_neg (by decide), hm, decide_eq_false hr]
      simp only [hw, Bool.false_and, Bool.false_or]
      by_cases he : jY l v = last
      · rw [if_pos he, if_pos he, ih _ _ _ (by omega)]
      · rw [if_neg he, if_neg he, if_pos (by omega), ih _ _ _ (by simp; omega), List.append_assoc]; rfl
end Go.Proofs.Ytjppookmjdaplaa.K
end

section
namespace Go.Proofs.Ytjppookmjdaplaa.K
open Go Go.RowKit Go.Proofs.YtjppookmjdaplaaW.PrintWords Go.Proofs.YtjppookmjdaplaaW.PrintLast Go.Proofs.YtjppookmjdaplaaW.PrintMore
theorem yZ (l : List TSp) (i : Nat) (h : i < l.length) : rdSp l (i : Int) = l[i] := lV l i h
theorem pO (a size nodes : Int) (l : List TSp) (hl : (l.length : Int) ≤ 1000000) (hn : 0 < l.length) :
    ∀ (k i : Nat), i + 1 ≤ l.length → 2 * (l.length - i) < k → stratumref12_Sound.l0 k size nodes ((i + 1 : Nat) : Int) a l = some (sndF size nodes (rdSp l i).f0 (rdSp l i).f1 (l.drop (i + 1)) && decide (l.length ≤ 40))
  | 0, _, _, h => by omega
  | 1, _, _, h => by omega
  | k + 2, i, hi, hki => by
    rw [stratumref12_Sound.l0]
    by_cases hlt : i + 1 < l.length
    · have hw : wrap64 (((i + 1 : Nat) : Int) - 1) = (i : Int) := by unfold wrap64; omega
      have hw2 : wrap64 (((i + 1 : Nat) : Int) + 1) = ((i + 2 : Nat) : Int) := by unfold wrap64; omega
      have hb : ∀ c, stratumref12_Sound.j1 (k + 1) size nodes ((i + 1 : Nat) : Int) true c l = some false := fun c => by rw [stratumref12_Sound.j1, if_pos rfl]
      rw [if_pos (by omega), if_pos (by omega), lV l (i + 1) hlt, drop_cons l (i + 1) hlt, yZ l i (by omega)]
      rw [show sndF size nodes l[i].f0 l[i].f1 (l[i + 1] :: l.drop (i + 1 + 1)) = (!decide (l[i + 1].f0 ≤ l[i].f0) && !decide (l[i + 1].f0 ≥ size) && !decide (l[i + 1].f1 = l[i].f1) && !decide (l[i + 1].f1 < 0) && !decide (l[i + 1].f1 ≥ mn nodes 6) && sndF size nodes l[i + 1].f0 l[i + 1].f1 (l.drop (i + 1 + 1))) from rfl]
      by_cases h4 : l[i + 1].f1 < 0
      · rw [if_pos h4, hb]; simp [h4]
      rw [if_neg h4]
      by_cases h5 : l[i + 1].f1 ≥ mn nodes 6
      · rw [if_pos h5, hb]; simp [h5]
      rw [if_neg h5]
      by_cases h2 : l[i + 1].f0 ≥ size
      · rw [if_pos h2, hb]; simp [h2]
      rw [if_neg h2, if_neg (by omega), stratumref12_Sound.j1, if_neg (by decide), if_pos (by omega), if_pos (by omega), if_pos (by omega), hw, if_pos (by omega), if_pos (by omega), lV l (i + 1) hlt, lV l i (by omega)]
      by_cases h1 : l[i + 1].f0 ≤ l[i].f0
      · rw [if_pos h1]; simp [h1]
      rw [if_neg h1]
      by_cases h3 : l[i + 1].f1 = l[i].f1
      · rw [if_pos h3]; simp [h3]
      rw [if_neg h3, hw2, pO a size nodes l hl hn k (i + 1) (by omega) (by omega), yZ l (i + 1) hlt]
      simp only [h1, h2, h3, h4, h5, decide_false, Bool.not_false, Bool.true_and]
    · rw [if_neg (by omega), if_pos (by omega), List.drop_eq_nil_of_le (by omega)]
      simp only [sndF, Bool.true_and]
      congr 1
      by_cases h : l.length ≤ 40
      · rw [decide_eq_true h, decide_eq_true (by omega)]
      · rw [decide_eq_false h, decide_eq_false (by omega)]
theorem vO (k : Nat) (a : Int) (l : List TSp) (size nodes : Int) (hl : (l.length : Int) ≤ 1000000) (hk : 2 * l.length + 5 < k) : stratumref12_Sound.f k a l size nodes = some (mZ l size nodes) := by
  obtain ⟨k, rfl⟩ : ∃ j, k = j + 2 := ⟨k - 2, by omega⟩
  unfold stratumref12_Sound.f mZ
  rw [stratumref12_Sound.l0]
  by_cases h0 : l.length = 0
  · rw [if_neg (by omega), if_neg (by omega)]; simp [h0]
  · obtain ⟨x, r, rfl⟩ : ∃ x r, l = x :: r := by
      cases l with
      | nil => simp at h0
      | cons x r => exact ⟨x, r, rfl⟩
    have hb : stratumref12_Sound.j1 (k + 1) size nodes 0 true a (x :: r) = some false := by rw [stratumref12_Sound.j1, if_pos rfl]
    have hx : iY (x :: r) 0 = x := rfl
    have hx' : rdSp (x :: r) 0 = x := rfl
    rw [if_pos (by simp), if_pos (by omega), hx, hx']
    rw [show sndF size nodes (-1) (-1) (x :: r) = (!decide (x.f0 ≤ -1) && !decide (x.f0 ≥ size) && !decide (x.f1 = -1) && !decide (x.f1 < 0) && !decide (x.f1 ≥ mn nodes 6) && sndF size nodes x.f0 x.f1 r) from rfl]
    by_cases h4 : x.f1 < 0
    · rw [if_pos h4, hb]; simp [h4]
    rw [if_neg h4]
    by_cases h5 : x.f1 ≥ mn nodes 6
    · rw [if_pos h5, hb]; simp [h5]
    rw [if_neg h5]
    by_cases h2 : x.f0 ≥ size
    · rw [if_pos h2, hb]; simp [h2]
    rw [if_neg h2, if_pos rfl, stratumref12_Sound.j1]
    by_cases h6 : x.f0 = 0
    · rw [if_neg (by simp [h6]), if_neg (by omega)]
      have := pO a size nodes (x :: r) hl (by simp) k 0 (by simp) (by simp at hk ⊢; omega)
      rw [show wrap64 (0 + 1) = ((0 + 1 : Nat) : Int) by unfold wrap64; omega, this, show rdSp (x :: r) ((0 : Nat) : Int) = x from rfl]
      have h7 : ¬ x.f1 = -1 := by omega
      have h8 : ¬ x.f0 ≤ -1 := by omega
      simp only [h2, h4, h5, h6, h7, h8, decide_false, decide_true, Bool.not_false, Bool.true_and, List.drop_succ_cons, List.drop_zero, Nat.zero_add, decide_eq_true h0, Bool.and_true, decide_not]
      have h9 : ¬ size ≤ 0 := by omega
      simp [h0, h9, Bool.and_comm]
    · rw [if_pos (by simp [h6])]; simp [h6]
end Go.Proofs.Ytjppookmjdaplaa.K
end

section
namespace Go.Proofs.Ytjppookmjdaplaa.K
open Go Go.RowKit Go.Proofs.YtjppookmjdaplaaW.PrintWords Go.Proofs.YtjppookmjdaplaaW.PrintLast Go.Proofs.YtjppookmjdaplaaW.PrintMore
theorem nN (l : List TSp) (fr tt node : Int) : ∀ (n : Nat) (v : Int), oth l fr tt node v n = true ↔ ∃ u, v ≤ u ∧ u < v + n ∧ fr ≤ u ∧ u < tt ∧ jY l u ≠ node
  | 0, v => by simp [oth]; intros; omega
  | n + 1, v => by
    simp only [oth, Bool.or_eq_true, Bool.and_eq_true, decide_eq_true_eq, bne_iff_ne, nN l fr tt node n (v + 1)]
    constructor
    · rintro (⟨⟨h1, h2⟩, h3⟩ | ⟨u, h1, h2, h3⟩)
      · exact ⟨v, by omega, by omega, h1, h2, h3⟩
      · exact ⟨u, by omega, by omega, h3⟩
    · rintro ⟨u, h1, h2, h3, h4, h5⟩
      by_cases hu : u = v
      · subst hu; exact .inl ⟨⟨h3, h4⟩, h5⟩
      · exact .inr ⟨u, by omega, by omega, h3, h4, h5⟩
theorem qC {l : List TSp} {nodes fr tt node : Int} {n : Nat} (h : Snd l n nodes) (h0 : 0 ≤ fr) (h1 : fr < tt) (h2 : tt ≤ n) (h3 : 0 ≤ node) (h4 : node < mn nodes 6) (h5 : (n : Int) ≤ 10000) : kM l fr tt = [node] ↔ oth l fr tt node 0 n = false := by
  have e1 : loN fr = fr := by show mx fr 0 = fr; unfold mx; split <;> omega
  have e2 : hiN tt = tt := by show mn tt 10000 = tt; unfold mn; split <;> omega
  have e6 : mn nodes 6 ≤ 6 := by unfold mn; split <;> omega
  have hall : oth l fr tt node 0 n = false ↔ ∀ u, fr ≤ u → u < tt → jY l u = node := by
    constructor
    · intro ho u hu1 hu2
      cases hd : decide (jY l u = node)
      · have := (nN l fr tt node n 0).2 ⟨u, by omega, by omega, hu1, hu2, by simpa using hd⟩
        rw [ho] at this; cases this
      · simpa using hd
    · intro ha
      cases ho : oth l fr tt node 0 n
      · rfl
      · obtain ⟨u, _, _, hu1, hu2, hu3⟩ := (nN l fr tt node n 0).1 ho
        exact absurd (ha u hu1 hu2) hu3
  rw [hall]
  unfold kM
  rw [e1, e2]
  constructor
  · intro hl u hu1 hu2
    have hf := h.find u (by omega)
    have : jY l u ∈ ([0, 1, 2, 3, 4, 5] : List Int).filter (nC l fr tt) := List.mem_filter.2 ⟨by simp; omega, (kS l fr tt _).2 ⟨u, hu1, hu2, rfl⟩⟩
    rw [hl] at this
    simpa using this
  · intro ha
    have hb : nC l fr tt = fun x => decide (x = node) := by
      funext x
      cases hd : nC l fr tt x
      · symm
        rw [decide_eq_false_iff_not]
        rintro rfl
        have := (kS l fr tt x).2 ⟨fr, Int.le_refl _, h1, ha fr (Int.le_refl _) h1⟩
        rw [hd] at this; cases this
      · obtain ⟨u, hu1, hu2, rfl⟩ := (kS l fr tt x).1 hd
        simp [ha u hu1 hu2]
    rw [hb]
    have : node = 0 ∨ node = 1 ∨ node = 2 ∨ node = 3 ∨ node = 4 ∨ node = 5 := by omega
    rcases this with rfl | rfl | rfl | rfl | rfl | rfl <;> decide
end Go.Proofs.Ytjppookmjdaplaa.K
end

section
namespace Go.Proofs.Ytjppookmjdaplaa.K
open Go Go.RowKit Go.Proofs.YtjppookmjdaplaaW.PrintWords Go.Proofs.YtjppookmjdaplaaW.PrintLast Go.Proofs.YtjppookmjdaplaaW.PrintMore
theorem xG (k : Nat) (a : Int) (l : List TSp) (size nodes fr tt node : Int) (hl : (l.length : Int) ≤ 1000000) (hk : 20000 + 2 * l.length + 20 < k) : stratumref12_Split.f k a l size nodes fr tt node = some (lU a l size nodes fr tt node) := by
  obtain ⟨k, rfl⟩ : ∃ j, k = j + 1 := ⟨k - 1, by omega⟩
  have bad : ¬ okS l size nodes fr tt node → stratumref12_Split.j0 (k + 1) size fr tt node true a l = some (lU a l size nodes fr tt node) := fun h => by
    rw [stratumref12_Split.j0, if_pos rfl]
    unfold lU
    rw [if_neg (fun hh => h hh.1)]
  unfold stratumref12_Split.f
  rw [vO (k + 1) a l size nodes hl (by omega)]
  simp only [Option.bind_some]
  by_cases hs : mZ l size nodes = true
  · rw [if_pos hs]
    by_cases h2 : fr < 0
    · rw [if_pos h2]; exact bad (fun h => by have := h.2.2.1; omega)
    rw [if_neg h2]
    by_cases h3 : fr ≥ tt
    · rw [if_pos h3]; exact bad (fun h => by have := h.2.2.2.1; omega)
    rw [if_neg h3]
    by_cases h4 : tt > size
    · rw [if_pos h4]; exact bad (fun h => by have := h.2.2.2.2.1; omega)
    rw [if_neg h4]
    by_cases h5 : node < 0
    · rw [if_pos h5]; exact bad (fun h => by have := h.2.2.2.2.2.1; omega)
    rw [if_neg h5]
    by_cases h6 : node ≥ mn nodes 6
    · rw [if_pos h6]; exact bad (fun h => by have := h.2.2.2.2.2.2; omega)
    rw [if_neg h6]
    by_cases h1 : size > 10000
    · rw [decide_eq_true h1]; exact bad (fun h => by have := h.2.1; omega)
    rw [decide_eq_false h1, stratumref12_Split.j0, if_neg (by decide)]
    have hok : okS l size nodes fr tt node := ⟨hs, by omega, by omega, by omega, by omega, by omega, by omega⟩
    obtain ⟨n, hn⟩ : ∃ n : Nat, size = n := ⟨size.toNat, by omega⟩
    subst hn
    have hsnd := IG hs
    have h7 := qJ a n fr tt node ((a + 1) % 4294967296) l hl (by omega) n k false (-1) 0 [] (by omega) (by omega) (by omega) (by simp)
    rw [h7, Bool.false_or, List.nil_append]
    have h8 := qC hsnd (by omega : 0 ≤ fr) (by omega : fr < tt) (by omega) (by omega : 0 ≤ node) (by omega) (by omega)
    have h9 := rH hsnd (by omega : 0 ≤ fr) (by omega : fr < tt) (by omega) (by omega : 0 ≤ node)
    unfold lU rEnd
    by_cases ho : oth l fr tt node 0 n = true
    · rw [if_pos ho, if_pos (show okS l n nodes fr tt node ∧ kM l fr tt ≠ [node] from ⟨hok, fun e => by rw [h8.1 e] at ho; cases ho⟩)]
      unfold yM
      rw [h9]
    · rw [if_neg ho, if_neg (fun hh : okS l n nodes fr tt node ∧ kM l fr tt ≠ [node] => hh.2 (h8.2 (by simpa using ho)))]
  · rw [if_neg hs]; exact bad (fun h => hs h.1)
end Go.Proofs.Ytjppookmjdaplaa.K
end

section
namespace Go.Proofs.Ytjppookmjdaplaa.K
open Go Go.RowKit Go.Proofs.YtjppookmjdaplaaW.PrintWords Go.Proofs.YtjppookmjdaplaaW.PrintLast Go.Proofs.YtjppookmjdaplaaW.PrintMore
theorem yV (xs : List TSp) : ∀ m, (glN xs m).length ≤ m
  | 0 => by simp [glN]
  | m + 1 => by
    have := yV xs m
    unfold glN
    split
    · omega
    · simp; omega
theorem vN (f : Int → Int) : ∀ (n : Nat) (v d : Int), Ris v (v + n) d (cn f d v n)
  | 0, _, _ => trivial
  | n + 1, v, d => by
    unfold cn
    have hs : ∀ d, Ris v (v + ((n + 1 : Nat) : Int)) d (cn f d (v + 1) n) := fun d => by
      have h := vN f n (v + 1) d
      rw [show v + 1 + (n : Int) = v + ((n + 1 : Nat) : Int) by omega] at h
      exact h.weak (fun x hx => by have := (h.lo x hx).1; omega)
    by_cases h : f v = d
    · rw [if_pos h]; exact hs d
    · rw [if_neg h]
      have h1 := vN f n (v + 1) (f v)
      rw [show v + 1 + (n : Int) = v + ((n + 1 : Nat) : Int) by omega] at h1
      exact ⟨Int.le_refl _, by show v < _; omega, h, h1⟩
theorem uV (f : Int → Int) : ∀ (n : Nat) (v d : Int) (x : TSp), x ∈ cn f d v n → v ≤ x.f0 ∧ x.f0 < v + n ∧ x.f1 = f x.f0
  | 0, _, _, _, h => by simp [cn] at h
  | n + 1, v, d, x, h => by
    unfold cn at h
    by_cases hd : f v = d
    · rw [if_pos hd] at h
      have := uV f n (v + 1) d x h
      omega
    · rw [if_neg hd] at h
      rcases List.mem_cons.1 h with rfl | h
      · exact ⟨Int.le_refl _, by show v < _; omega, rfl⟩
      · have := uV f n (v + 1) _ x h
        omega
/-- Where nodes turn is a sound map. -/
theorem IK (f : Int → Int) (n : Nat) (nodes : Int) (h0 : 0 < n) (hf : ∀ u, 0 ≤ u → u < (n : Int) → 0 ≤ f u ∧ f u < mn nodes 6) (hl : (cn f (-1) 0 n).length ≤ 40) : Snd (cn f (-1) 0 n) n nodes := by
  obtain ⟨n, rfl⟩ : ∃ m, n = m + 1 := ⟨n - 1, by omega⟩
  have h1 : cn f (-1) 0 (n + 1) = ⟨0, f 0⟩ :: cn f (f 0) (0 + 1) n := by
    have := hf 0 (by omega) (by omega)
    rw [cn, if_neg (by omega)]
  refine ⟨hl, by have := vN f (n + 1) 0 (-1); rwa [Int.zero_add] at this, fun x hx => ?_, by rw [h1]; simp, by rw [h1]; rfl⟩
  obtain ⟨a, b, c⟩ := uV f _ _ _ x hx
  rw [c]
  exact hf _ a (by omega)
/-- At first all are one node's. -/
theorem I4 (n : Nat) (nodes : Int) (h0 : 0 < n) (h1 : 1 ≤ nodes) : Snd [(⟨0, 0⟩ : TSp)] n nodes := by
  refine ⟨by simp, ⟨Int.le_refl _, by show (0 : Int) < n; omega, by show (0 : Int) ≠ -1; omega, trivial⟩, fun x hx => ?_, by simp, rfl⟩
  simp at hx; subst hx
  refine ⟨Int.le_refl _, ?_⟩
  show (0 : Int) < mn nodes 6
  unfold mn; split <;> omega
/-- What a split makes of a sound map: it is refused and nothing; or it is the next one. -/
theorem pK {l : List TSp} {nodes fr tt node : Int} {n : Nat} (a : Int) (h : Snd l n nodes) (h0 : 0 ≤ fr) (h1 : fr < tt) (h2 : tt ≤ n) (h3 : 0 ≤ node) (h4 : node < mn nodes 6) (h5 : (n : Int) ≤ 10000) :
    (lU a l n nodes fr tt node = (0, [], 120) ∧ (∀ u, fr ≤ u → u < tt → jY l u = node)) ∨
    ((∃ u, fr ≤ u ∧ u < tt ∧ jY l u ≠ node) ∧
      ((lU a l n nodes fr tt node = (0, [], 3) ∧ 40 < (cn (mv l fr tt node) (-1) 0 n).length ∧ 39 ≤ l.length) ∨
       (lU a l n nodes fr tt node = ((a + 1) % 4294967296, cn (mv l fr tt node) (-1) 0 n, 0) ∧ Snd (cn (mv l fr tt node) (-1) 0 n) n nodes))) := by
  have h8 := qC h h0 h1 h2 h3 h4 h5
  have h9 := rH h h0 h1 h2 h3
  have hok : okS l n nodes fr tt node := ⟨IJ h, h5, h0, h1, h2, h3, h4⟩
  by_cases ho : oth l fr tt node 0 n = true
  · right
    obtain ⟨u, _, _, k1, k2, k3⟩ := (nN l fr tt node n 0).1 ho
    refine ⟨⟨u, k1, k2, k3⟩, ?_⟩
    have hs : lU a l n nodes fr tt node = yM a (mQ l n tt (l.filter (fun x => decide (x.f0 < fr)) ++ [⟨fr, node⟩])) := by
      unfold lU
      rw [if_pos ⟨hok, fun e => by rw [h8.1 e] at ho; cases ho⟩]
    rw [hs]
    unfold yM
    rw [h9]
    by_cases hg : (((cn (mv l fr tt node) (-1) 0 n).length : Nat) : Int) > 40
    · rw [if_pos hg]
      refine .inl ⟨rfl, by omega, ?_⟩
      have hle : (cn (mv l fr tt node) (-1) 0 n).length ≤ (mQ l n tt (l.filter (fun x => decide (x.f0 < fr)) ++ [⟨fr, node⟩])).length := by rw [← h9]; exact yV _ _
      have hmid : (mQ l n tt (l.filter (fun x => decide (x.f0 < fr)) ++ [⟨fr, node⟩])).length ≤ l.length + 2 := by
        have ha := lM fr h.ris.asc
        have hb : (l.filter (fun x => decide (x.f0 > tt))).length ≤ (l.filter (fun x => decide (fr ≤ x.f0))).length := by
          refine List.Sublist.length_le ?_
          have : l.filter (fun x => decide (x.f0 > tt)) = (l.filter (fun x => decide (fr ≤ x.f0))).filter (fun x => decide (x.f0 > tt)) := by
            rw [List.filter_filter]
            refine List.filter_congr (fun x _ => ?_)
            by_cases hx : x.f0 > tt
            · have : fr ≤ x.f0 := by omega
              simp [hx, this]
            · simp [hx]
          rw [this]
          exact List.filter_sublist
        have hc := congrArg List.length ha
        rw [List.length_append] at hc
        unfold mQ
        split <;> simp only [List.length_append, List.length_cons, List.length_nil] <;> omega
      omega
    · rw [if_neg hg]
      refine .inr ⟨rfl, IK _ n nodes (by omega) (fun u hu1 hu2 => ?_) (by omega)⟩
      unfold mv
      split
      · exact ⟨h3, h4⟩
      · exact h.find u hu1
  · left
    have ho' : oth l fr tt node 0 n = false := by simpa using ho
    refine ⟨by unfold lU; rw [if_neg (fun hh : okS l n nodes fr tt node ∧ kM l fr tt ≠ [node] => hh.2 (h8.2 ho'))], fun u k1 k2 => ?_⟩
    cases hd : decide (jY l u = node)
    · have := (nN l fr tt node n 0).2 ⟨u, by omega, by omega, k1, k2, by simpa using hd⟩
      rw [ho'] at this; cases this
    · simpa using hd
end Go.Proofs.Ytjppookmjdaplaa.K
end

section
namespace Go.Proofs.Ytjppookmjdaplaa.K
open Go.RowKit Go.Proofs.YtjppookmjdaplaaW.PrintWords Go.Proofs.YtjppookmjdaplaaW.PrintLast Go.Proofs.YtjppookmjdaplaaW.PrintMore
attribute [local go_sem] jQ jP jX jW
def stratumref12_New.f  : Option (Int × (List (S96))) := some (1, (([(⟨0, 0⟩ : S96)] : List (S96))))
set_option maxHeartbeats 8000000 in
set_option maxRecDepth 100000 in
theorem stratumref12_New.calls  (r1 : Int) (r2 : List (S96)) (w : World) (h : stratumref12_New.f  = some (r1, r2)) :
    Calls Try.prog 45 #[] w fun e w' => ∃ v1_ : Value, e = .returned (.agg #[.int .u32 r1, v1_]) ∧ Kd.R k96 96 w' w.heap.size (fun _ => True) v1_ r2 ∧ Below w.heap.size w w' := by
  have hu42 := Try.underlying42
  have hu96 := Try.underlying96
  have HB := iC.mk (Below.refl w.heap.size w)
  have H : (some (1, (([(⟨0, 0⟩ : S96)] : List (S96))))) = some (r1, r2) := h
  clear h
  obtain ⟨y102, hy102⟩ : ∃ y_ : List (S96), y_ = (([(⟨0, 0⟩ : S96)] : List (S96))) := ⟨_, rfl⟩
  replace H : (some (1, y102)) = some (r1, r2) := by first | (rw [hy102]; with_reducible exact H) | (have H2_ := (Option.bind_some _ _).symm.trans H; rw [hy102]; with_reducible exact H2_) | (have H2_ := (Option.bind_some _ _).symm.trans H; with_reducible exact H2_) | with_reducible exact H | (rw [hy102]; exact H) | exact H
  have Ny102 := iC.mk hy102
  clear hy102
  simp only [Option.some.injEq, Prod.mk.injEq] at H
  obtain ⟨rfl, rfl⟩ := H
  go_enter Try.func45, Try.ntmps45
  go_wp2_with (first | ((with_reducible refine jF (N := 0) rfl ?_); refine jD ?hg (N := 0) ?hd (cs := #[.int .u32 0, .slice none 0 0]) (t := 42) ?hr ?_; (case hd => rfl); (case hg => rfl); (case hr => first | (go_simp; done) | (go_simp; rfl)); intro gb101 hg w1 hbox hb; have n0_ := iC.mk (iM hb_ hb); have n1_ := iC.mk (hbox); have n2_ := iC.mk ((by rw [hg]; exact (iJ hb_) : w.heap.size ≤ gb101)); have n3_ := iC.mk ((by rw [hg]; exact (iJ hb_) : w.heap.size ≤ gb101)); clear HB; have HB := n0_; have BK101 := n1_; have GW101 := n2_; have GE101 := n3_; clear n0_ n1_ n2_ n3_; clear hb hbox hg) | ((with_reducible refine jF (N := 2) rfl ?_); refine Kd.R_lit k96 _ 96 ?hg (N := 2) ?hd (xs := ([(⟨0, 0⟩ : S96)] : List (S96))) (inner := [.int .i64 0, .int .i64 0]) (ok := fun _ => True) (okp := fun _ => True) ?hr ?hp (fun _ hk => hk) trivial (Below.refl _ _) (Nat.le_refl _) (by simp) ?_; (case hd => rfl); (case hg => rfl); (case hr => first | (go_simp; done) | (go_simp; rfl)); (case hp => exact (Reps.c2 (show Kd.M k96 _ _ _ (⟨0, 0⟩ : S96) [.int .i64 0, .int .i64 0] from (kT _ _ _ (⟨0, 0⟩ : S96) )) (Reps.none _ _))); intro v103 w2 ho3 hb hg_ hnew_; clear hg_ hnew_; (first | rw [← Ny102.out] at ho3 | (simp only [Int.reduceToNat] at ho3; rw [← Ny102.out] at ho3)); have n0_ := iC.mk (Kd.R_lower ho3 (iJ (by repeat (first | (with_reducible first | exact HB.out | apply iG | apply iD | apply iF | refine iE ?_ GE101.out) | exact HB.out)))); have n1_ := iC.mk (iP (g := gb101) (o := .cells #[.int .u32 0, .slice none 0 0] 42 (0, 0)) (bk_ BK101.out) hb); have n2_ := iC.mk (iM (by repeat (first | (with_reducible first | exact HB.out | apply iG | apply iD | apply iF | refine iE ?_ GE101.out) | exact HB.out)) hb); clear BK101; clear HB; have HO104 := n0_; have BK101 := n1_; have HB := n2_; clear n0_ n1_ n2_; clear hb ho3; obtain ⟨Ao4, co4, eo4⟩ := Kd.R_slice HO104.out; subst eo4; have hcz5_0 : w2.cell? ⟨gb101, 0, none⟩ = some (.int .u32 0) := (iH BK101.out 0).trans rfl; have hcz5_1 : w2.cell? ⟨gb101, 1, none⟩ = some (.slice none 0 0) := (iH BK101.out 1).trans rfl; have hfz5_0 := iI BK101.out 0; have hfz5_1 := iI BK101.out 1))
  refine bodyPost_ret (results_cell_row rfl _ _ gb101 42 #[.int .u32 1, .slice Ao4 y102.length co4] (0, 0) _ rfl (by (with_reducible repeat (first | refine iL ?_ _ | refine iO ?_ | refine iK ?_ _)); refine jC (cs := #[.int .u32 1, .slice none 0 0]) ?_ 1 _ rfl; (with_reducible repeat (first | refine iL ?_ _ | refine iO ?_ | refine iK ?_ _)); refine jC (cs := #[.int .u32 0, .slice none 0 0]) ?_ 0 _ rfl; (with_reducible repeat (first | refine iL ?_ _ | refine iO ?_ | refine iK ?_ _)); exact BK101.out) Try.underlying42 rfl (by kernel_rfl)) rfl ?_
  exact ⟨_, by first | rfl | (simp [iU, iV] <;> rfl) | (simp [*, iU, iV] <;> rfl), by (with_reducible repeat (first | apply Kd.R_alloc | apply Kd.R_drewN | apply Kd.R_drew)); exact Kd.R_mono (Kd.R_far (p := ⟨gb101, 1, none⟩) (Kd.R_far (p := ⟨gb101, 0, none⟩) (Kd.R_types HO104.out BK101.out (by decide)) (fun _ hk => hk.2) (.int .u32 1)) (fun _ hk => hk.2) (.slice Ao4 y102.length co4)) (fun _ hk => trivial), by repeat (first | (with_reducible first | exact HB.out | apply iG | apply iD | apply iF | refine iE ?_ GE101.out) | exact HB.out)⟩
end Go.Proofs.Ytjppookmjdaplaa.K
end
