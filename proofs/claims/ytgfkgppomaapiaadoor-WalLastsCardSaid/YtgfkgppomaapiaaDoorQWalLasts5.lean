/- Parts of the proof, one behind the other: LawF, K43. -/
import Derived.Test.YtgfkgppomaapiaaDoorQWalLasts4
set_option linter.unusedVariables false
set_option linter.unusedSimpArgs false
section
namespace Go.Proofs.YtgfkgppomaapiaaDoor.K
open Go.RowKit Go.Proofs.YtgfkgppomaapiaaDoorW.PrintWords Go.Proofs.YtgfkgppomaapiaaDoorW.PrintLast Go.Proofs.YtgfkgppomaapiaaDoorW.PrintMore
attribute [local go_sem] kF kD kN kM
theorem VW : (Tryd.prog.info? 139).map (fun i => (i.zero, i.size, i.bytes)) = some (some (.agg #[(.slice none 0 0), (.int .i64 0)]), 2, 32) := by kernel_rfl
mutual
def stratumlaw07_Facts.l0 : Nat → List (S139) → List (S139) → Int → Option ((List (S139)))
 | 0, _, _, _ => none
 | k + 1, x0, x3, x4 => if x4 < (x0.length : Int) then (stratumlaw07_Facts.j1 k x0 x3 x4 (decide (x4 < 60))) else (stratumlaw07_Facts.j1 k x0 x3 x4 false)
def stratumlaw07_Facts.j1 : Nat → List (S139) → List (S139) → Int → Bool → Option ((List (S139)))
 | 0, _, _, _, _ => none
 | k + 1, x0, x3, x4, x14 => if x14 = true then (if 0 ≤ x4 then (if x4 < (x0.length : Int) then (stratumlaw07_Facts.l1 k x0 x3 x4 0 ([] : List Int) ((iZ x0 x4).f1)) else (none)) else (none)) else (some x3)
def stratumlaw07_Facts.l1 : Nat → List (S139) → List (S139) → Int → Int → List Int → Int → Option ((List (S139)))
 | 0, _, _, _, _, _, _ => none
 | k + 1, x0, x3, x4, x6, x178000, x178001 => if 0 ≤ x4 then (if x4 < (x0.length : Int) then (if x6 < (((iZ x0 x4).f0).length : Int) then (if x6 < 4 then (if 0 ≤ x6 then (if x178000.length < 17592186044416 then (stratumlaw07_Facts.l1 k x0 x3 x4 (wrap64 (x6 + 1)) (x178000 ++ [(mx (rd ((iZ x0 x4).f0) x6) 0) % 10000]) x178001) else (none)) else (none)) else (if x3.length < 4398046511104 then (stratumlaw07_Facts.l0 k x0 (x3 ++ [(⟨x178000, x178001⟩ : S139)]) (wrap64 (x4 + 1))) else (none))) else (if x3.length < 4398046511104 then (stratumlaw07_Facts.l0 k x0 (x3 ++ [(⟨x178000, x178001⟩ : S139)]) (wrap64 (x4 + 1))) else (none))) else (none)) else (none)
end
def stratumlaw07_Facts.f (k : Nat) (l0 : List (S139)) : Option ((List (S139))) := stratumlaw07_Facts.l0 k l0 ([] : List (S139)) 0
def stratumlaw07_Facts.T9 : Bool × List (List Nat × List Nat) := (true, [([], []), ([0], [0]), ([], []), ([], []), ([2, 3], [2, 3]), ([4], [4]), ([5], [5]), ([], []), ([6, 7], [6, 7]), ([8], [8]), ([9], [9]), ([10], [10]), ([11], [11]), ([1, 12], [1, 12]), ([0, 1, 2, 3, 4, 5, 6, 7, 8, 9, 10, 11, 12, 13], []), ([14, 13, 13, 0, 1, 2, 3, 4, 5, 6, 7, 8, 9, 10, 11, 12, 13], [13, 14])])
def stratumlaw07_Facts.B9 : List Nat := [0, 1, 0, 0, 12, 28, 60, 0, 252, 508, 1020, 2044, 4092, 8191, 16383, 32767]
theorem stratumlaw07_Facts.tab9 : rtab .any (opsOf Tryd.f73 9) = stratumlaw07_Facts.T9 := by kernel_rfl
theorem stratumlaw07_Facts.bits9 : lX stratumlaw07_Facts.T9.2 stratumlaw07_Facts.B9 = true := by kernel_rfl
set_option maxHeartbeats 8000000 in
set_option maxRecDepth 100000 in
theorem stratumlaw07_Facts.callsS (k : Nat) (A0 : Option Addr) (c0 : Nat) (l0 : List (S139)) (r : List (S139)) (w : World) (hr0 : Kd.C k139 w A0 l0.length l0) (hc0 : l0.length ≤ c0) (h : stratumlaw07_Facts.f k l0 = some r) :
  Calls Tryd.prog 73 #[.slice A0 l0.length c0] w fun e w' => ∃ v0_ : Value, e = .returned (v0_) ∧ Kd.S k139 139 w' w.heap.size (fun _ => True) v0_ r ∧ Below w.heap.size w w' := by
 have hu139 := Tryd.underlying139
 have HR0 := iC.mk hr0
 have HC0 := iC.mk hc0
 clear hr0 hc0
 have HB := iC.mk (Below.refl w.heap.size w)
 have H : (stratumlaw07_Facts.l0 k l0 ([] : List (S139)) 0) = some r := h
 clear h
 have H' := iC.mk H
 clear H
 go_enter Tryd.func73, Tryd.ntmps73
 go_wp2
 go_loopg [3, 4] k (fun kq v3 v4 w' => ∃ (x3_1 : List (S139)) (x4_1 : Int), v4 = .int .i64 x4_1 ∧ iC (stratumlaw07_Facts.l0 kq l0 x3_1 x4_1 = some r) ∧ iC (kq ≤ k) ∧ iC (Kd.S k139 139 w' w.heap.size (fun _ => True) v3 x3_1) ∧ iC (Below w.heap.size w w'))
 case atStart => exact ⟨(([] : List (S139))), (0), (by first | rfl | (simp; done) | (simp [*]; done)), H', ⟨Nat.le_refl _⟩, ⟨by first | exact Kd.S_nil _ _ _ _ _ | exact Kd.N_nil _ _ _ _ _ | exact Kd.V_nil _ _ _ _ _ | exact Kd.Q_nil _ _ _ _ _ | exact Kd.R_nil _ _ _ _ _⟩, ⟨hb_⟩⟩
 case round =>
  clear H'
  obtain ⟨x3_1, x4_1, rfl, HA, HK1, HO_3, HB⟩ := hrel
  cases gk with
  | zero => exact absurd HA.out (by simp [stratumlaw07_Facts.l0])
  | succ k1 =>
   have H := HA.out
   clear HA
   simp only [stratumlaw07_Facts.l0] at H
   have HC2 := iC.mk H
   clear H
   go_upto_region 3 with (fail)
   go_cut [14] (fun v14 wc => ∃ (kq : Nat) (x14_1 : Bool), v14 = .bool x14_1 ∧ iC (stratumlaw07_Facts.j1 kq l0 x3_1 x4_1 x14_1 = some r) ∧ iC (kq ≤ k1) ∧ iC (Kd.S k139 139 wc w.heap.size (fun _ => True) u3 x3_1) ∧ iC (Below w.heap.size w wc))
   case first =>
    have H := HC2.out
    clear HC2
    by_cases c3 : x4_1 < (l0.length : Int)
    ·rw [if_pos c3] at H
     have c3b0 : decide (x4_1 < (l0.length : Int)) = true := decide_eq_true c3
     clear c3
     (first | rw [c3b0] | (simp only [iR, jG]; rw [c3b0]) | skip)
     have H' := iC.mk H
     clear H
     go_wp2
     go_meet
     case rel => exact ⟨_, (decide (x4_1 < 60)), (by first | rfl | (simp; done) | (simp [*]; done)), H', ⟨by have := HK1.out; first | omega | exact Nat.le_refl _⟩, ⟨by (with_reducible repeat (first | apply Kd.S_alloc | apply Kd.S_drewN | apply Kd.S_drew)); exact HO_3.out⟩, ⟨hb_⟩⟩
    ·rw [if_neg c3] at H
     have c3b0 : decide (x4_1 < (l0.length : Int)) = false := decide_eq_false c3
     clear c3
     (first | rw [c3b0] | (simp only [iR, jG]; rw [c3b0]) | skip)
     have H' := iC.mk H
     clear H
     go_wp2
     go_meet
     case rel => exact ⟨_, (false), (by first | rfl | (simp; done) | (simp [*]; done)), H', ⟨by have := HK1.out; first | omega | exact Nat.le_refl _⟩, ⟨by (with_reducible repeat (first | apply Kd.S_alloc | apply Kd.S_drewN | apply Kd.S_drew)); exact HO_3.out⟩, ⟨hb_⟩⟩
   case rest =>
    clear HC2
    try clear p2
    try clear c3
    try clear c3b0
    obtain ⟨kq, x14_1, rfl, HA, HJ1, HO_3, HB⟩ := hcut
    cases kq with
    | zero => exact absurd HA.out (by simp [stratumlaw07_Facts.j1])
    | succ kj1 =>
     have H := HA.out
     clear HA
     simp only [stratumlaw07_Facts.j1] at H
     by_cases c4 : x14_1 = true
     ·subst c4
      have H1 : (if 0 ≤ x4_1 then (if x4_1 < (l0.length : Int) then (stratumlaw07_Facts.l1 kj1 l0 x3_1 x4_1 0 ([] : List Int) ((iZ l0 x4_1).f1)) else (none)) else (none)) = some r := by rw [if_pos rfl] at H; exact H
      clear H
      have H := H1
      clear H1
      by_cases c5 : 0 ≤ x4_1
      ·rw [if_pos c5] at H
       have c5b0 : decide (0 ≤ x4_1) = true := decide_eq_true c5
       clear c5
       by_cases c6 : x4_1 < (l0.length : Int)
       ·rw [if_pos c6] at H
        have c6b0 : decide (x4_1 < (l0.length : Int)) = true := decide_eq_true c6
        clear c6
        have H' := iC.mk H
        clear H
        have p176 : 0 ≤ (x4_1 : Int) := of_decide_eq_true asm_
        have q176 : x4_1 < (l0.length : Int) := of_decide_eq_true asm_
        obtain ⟨ad176, A176_0, c176_0, e176, hx176_0, hx176_1, hl176_0, hi176_0⟩ := mQ HR0.out x4_1 p176 q176
        cases e176
        replace hx176_0 := (HB.out.cell (World.block_lt_of_cell? w _ hx176_0)).trans hx176_0
        replace hx176_1 := (HB.out.cell (World.block_lt_of_cell? w _ hx176_1)).trans hx176_1
        have HR176_0 := iC.mk hi176_0
        have HC176_0 := iC.mk hl176_0
        clear hi176_0 hl176_0
        replace p176 := eq_true p176
        replace q176 := eq_true q176
        go_wp2_with (first | ((with_reducible refine jY (N := 5) rfl ?_); refine jQ ?hg (N := 5) ?hd (cs := #[.slice none 0 0, .int .i64 0]) (t := 139) ?hr ?_; (case hd => rfl); (case hg => rfl); (case hr => first | (go_simp; done) | (go_simp; rfl)); intro gb177 hg w7 hbox hb; have n0_ := iC.mk (Kd.S_below (Kd.S_elderB (by (with_reducible repeat (first | apply Kd.S_alloc | apply Kd.S_drewN | apply Kd.S_drew)); exact HO_3.out) gb177 (Nat.le_of_eq hg.symm)) hb); have n1_ := iC.mk (iK hb_ hb); have n2_ := iC.mk (hbox); have n3_ := iC.mk ((by rw [hg]; exact (iQ hb_) : w.heap.size ≤ gb177)); have n4_ := iC.mk ((by rw [hg]; exact (iQ hb_) : w.heap.size ≤ gb177)); clear HO_3; clear HB; have HO_3 := n0_; have HB := n1_; have BK177 := n2_; have GW177 := n3_; have GE177 := n4_; clear n0_ n1_ n2_ n3_ n4_; clear hb hbox hg; have hcz8_0 : w7.cell? ⟨gb177, 0, none⟩ = some (.slice none 0 0) := (iE BK177.out 0).trans rfl; have hcz8_1 : w7.cell? ⟨gb177, 1, none⟩ = some (.int .i64 0) := (iE BK177.out 1).trans rfl; have hfz8_0 := iD BK177.out 0; have hfz8_1 := iD BK177.out 1))
        go_loopg [6] kj1 (fun kq v6 w' => ∃ (x6_3 : Int) (x178000_3 : List Int) (u178000 : Value), v6 = .int .i64 x6_3 ∧ iC (stratumlaw07_Facts.l1 kq l0 x3_1 x4_1 x6_3 x178000_3 ((iZ l0 x4_1).f1) = some r) ∧ iC (kq ≤ kj1) ∧ iC (Kd.S k139 139 w' w.heap.size (fun k_ => some k_ ≠ (u178000 : Value).ownBlock ∧ k_ ≠ gb177) u3 x3_1) ∧ iC (Kd.R (Kd.int .i64) 3 w' w.heap.size (fun _ => True) u178000 x178000_3) ∧ iC (w'.heap[gb177]? = some (.cells #[u178000, .int .i64 ((iZ l0 x4_1).f1)] 139 (0, 0))) ∧ iC (Below w.heap.size w w'))
        case atStart => exact ⟨(0), (([] : List Int)), (.slice none 0 0), (by first | rfl | (simp; done) | (simp [*]; done)), H', ⟨Nat.le_refl _⟩, ⟨by (with_reducible repeat (first | apply Kd.S_alloc | apply Kd.S_drewN | apply Kd.S_drew)); exact Kd.S_mono (Kd.S_far (p := ⟨gb177, 1, none⟩) (Kd.S_far (p := ⟨gb177, 0, none⟩) (Kd.S_mono HO_3.out (fun k_ hk => (⟨hk, hk.2⟩ : _ ∧ k_ ≠ gb177))) (fun _ hk => hk.2) (.slice none 0 0)) (fun _ hk => hk.2) (.int .i64 ((iZ l0 x4_1).f1))) (fun _ hk => ⟨(by simp [Value.ownBlock]), hk.1.2⟩)⟩, ⟨by first | exact Kd.R_nil _ _ _ _ _ | exact Kd.N_nil _ _ _ _ _ | exact Kd.V_nil _ _ _ _ _ | exact Kd.Q_nil _ _ _ _ _ | exact Kd.S_nil _ _ _ _ _⟩, ⟨by (with_reducible repeat (first | refine iL ?_ _ | refine iM ?_ | refine iI ?_ _)); refine iY (cs := #[.slice none 0 0, .int .i64 0]) ?_ 1 _ rfl; (with_reducible repeat (first | refine iL ?_ _ | refine iM ?_ | refine iI ?_ _)); refine iY (cs := #[.slice none 0 0, .int .i64 0]) ?_ 0 _ rfl; (with_reducible repeat (first | refine iL ?_ _ | refine iM ?_ | refine iI ?_ _)); exact BK177.out⟩, ⟨by repeat (first | (with_reducible first | exact HB.out | apply iG | apply iF | apply iJ | refine iH ?_ GE177.out) | exact HB.out)⟩⟩
        case round =>
         clear H'
         try clear c1
         try clear p1
         try clear q1
         try clear hx1
         try clear p2
         try clear c3
         try clear c3b0
         try clear c4
         try clear c5
         try clear c5b0
         try clear c6
         try clear c6b0
         try clear c7
         try clear hcz8_0
         try clear hcz8_1
         try clear hfz8_0
         try clear hfz8_1
         try clear hx176_0
         try clear hx176_1
         try clear p176
         try clear p2
         try clear q176
         obtain ⟨x6_3, x178000_3, u178000, rfl, HA, HK3, HO_3, HO_178000, BK177, HB⟩ := hrel
         cases gk with
         | zero => exact absurd HA.out (by simp [stratumlaw07_Facts.l1])
         | succ k3 =>
          have H := HA.out
          clear HA
          simp only [stratumlaw07_Facts.l1] at H
          by_cases c9 : 0 ≤ x4_1
          ·rw [if_pos c9] at H
           have c9b0 : decide (0 ≤ x4_1) = true := decide_eq_true c9
           clear c9
           by_cases c10 : x4_1 < (l0.length : Int)
           ·rw [if_pos c10] at H
            have c10b0 : decide (x4_1 < (l0.length : Int)) = true := decide_eq_true c10
            clear c10
            by_cases c11 : x6_3 < (((iZ l0 x4_1).f0).length : Int)
            ·rw [if_pos c11] at H
             have c11b0 : decide (x6_3 < (((iZ l0 x4_1).f0).length : Int)) = true := decide_eq_true c11
             clear c11
             by_cases c12 : x6_3 < 4
             ·rw [if_pos c12] at H
              have c12b0 : decide (x6_3 < 4) = true := decide_eq_true c12
              clear c12
              by_cases c13 : 0 ≤ x6_3
              ·rw [if_pos c13] at H
               have c13b0 : decide (0 ≤ x6_3) = true := decide_eq_true c13
               clear c13
               obtain ⟨ji14, hji14⟩ : ∃ j_ : Int, (mx (rd ((iZ l0 x4_1).f0) x6_3) 0) = j_ := ⟨_, rfl⟩
               replace H : (if x178000_3.length < 17592186044416 then (stratumlaw07_Facts.l1 k3 l0 x3_1 x4_1 (wrap64 (x6_3 + 1)) (x178000_3 ++ [(ji14) % 10000]) ((iZ l0 x4_1).f1)) else (none)) = some r := by first | (rw [hji14] at H; exact H) | (simp only [hji14] at H ⊢; exact H)
               have hji14_ : (if (rd ((iZ l0 x4_1).f0) x6_3) < 0 then 0 else (rd ((iZ l0 x4_1).f0) x6_3)) = ji14 := hji14
               have hpos_ : 0 ≤ ji14 := by rw [← hji14_]; split <;> omega
               have hmod_ : ji14.tmod 10000 = ji14 % 10000 := Int.tmod_eq_emod_of_nonneg hpos_
               by_cases c15 : x178000_3.length < 17592186044416
               ·rw [if_pos c15] at H
                have LMc15 := iC.mk c15
                clear c15
                obtain ⟨y181, hy181⟩ : ∃ y_ : List Int, y_ = (x178000_3 ++ [(ji14) % 10000]) := ⟨_, rfl⟩
                replace H : (stratumlaw07_Facts.l1 k3 l0 x3_1 x4_1 (wrap64 (x6_3 + 1)) y181 ((iZ l0 x4_1).f1)) = some r := by first | (rw [hy181]; with_reducible exact H) | (have H2_ := (Option.bind_some _ _).symm.trans H; rw [hy181]; with_reducible exact H2_) | (have H2_ := (Option.bind_some _ _).symm.trans H; with_reducible exact H2_) | with_reducible exact H | (rw [hy181]; exact H) | exact H
                have Ny181 := iC.mk hy181
                clear hy181
                have H' := iC.mk H
                clear H
                have p178 : 0 ≤ (x4_1 : Int) := of_decide_eq_true asm_
                have q178 : x4_1 < (l0.length : Int) := of_decide_eq_true asm_
                obtain ⟨ad178, A178_0, c178_0, e178, hx178_0, hx178_1, hl178_0, hi178_0⟩ := mQ HR0.out x4_1 p178 q178
                obtain rfl : ad176 = ad178 := (by injection e178)
                replace hx178_0 := (HB.out.cell (World.block_lt_of_cell? w _ hx178_0)).trans hx178_0
                replace hx178_1 := (HB.out.cell (World.block_lt_of_cell? w _ hx178_1)).trans hx178_1
                have HR178_0 := iC.mk hi178_0
                have HC178_0 := iC.mk hl178_0
                clear hi178_0 hl178_0
                replace p178 := eq_true p178
                replace q178 := eq_true q178
                try go_wp2
                have n0_ := iC.mk (Kd.S_drew HO_3.out)
                have n1_ := iC.mk (Kd.R_drew HO_178000.out)
                have n2_ := iC.mk (iM BK177.out)
                have n3_ := iC.mk (iJ HB.out)
                clear HO_3
                clear HO_178000
                clear BK177
                clear HB
                have HO_3 := n0_
                have HO_178000 := n1_
                have BK177 := n2_
                have HB := n3_
                clear n0_ n1_ n2_ n3_
                have p179 : 0 ≤ (x4_1 : Int) := of_decide_eq_true asm_
                have q179 : x4_1 < (l0.length : Int) := of_decide_eq_true asm_
                obtain ⟨ad179, A179_0, c179_0, e179, hx179_0, hx179_1, hl179_0, hi179_0⟩ := mQ HR0.out x4_1 p179 q179
                have hw179_1 := hx179_1
                have hw179_0 := hx179_0
                obtain rfl : ad176 = ad179 := (by injection e179)
                replace hx179_0 := (HB.out.cell (World.block_lt_of_cell? w _ hx179_0)).trans hx179_0
                replace hx179_1 := (HB.out.cell (World.block_lt_of_cell? w _ hx179_1)).trans hx179_1
                have HR179_0 := iC.mk hi179_0
                have HC179_0 := iC.mk hl179_0
                clear hi179_0 hl179_0
                replace p179 := eq_true p179
                replace q179 := eq_true q179
                have p180 : 0 ≤ (x6_3 : Int) := of_decide_eq_true asm_
                have q180 : x6_3 < (((iZ l0 x4_1).f0).length : Int) := of_decide_eq_true asm_
                obtain ⟨ad180, e180, hx180_0⟩ := Kd.at_int HR179_0.out x6_3 p180 q180
                have hw180_0 := hx180_0
                cases e180
                replace hx180_0 := (HB.out.cell (World.block_lt_of_cell? w _ hx180_0)).trans hx180_0
                replace p180 := eq_true p180
                replace q180 := eq_true q180
                refine qY (n := 16) (S := fun w' => w'.cell? ⟨gb177, 0, none⟩ = some (u178000) ∧ w'.cell? ⟨gb177, 1, none⟩ = some (.int .i64 ((iZ l0 x4_1).f1)) ∧ w'.cell? (ad176.add ((x4_1).toNat * 2)) = some (.slice (some ad180) ((iZ l0 x4_1).f0).length c179_0) ∧ w'.cell? ⟨(ad176.add ((x4_1).toNat * 2)).block, (ad176.add ((x4_1).toNat * 2)).off + 1, none⟩ = some (.int .i64 ((iZ l0 x4_1).f1)) ∧ w'.cell? (ad180.add (x6_3).toNat) = some (.int .i64 (rd ((iZ l0 x4_1).f0) x6_3))) (ds := [15]) #[false, false, false, false, false, false, false, false, false, false, false, false, false, false, false, false] (by kernel_rfl) rfl rfl ⟨(iE BK177.out 0).trans rfl, (iE BK177.out 1).trans rfl, ((HB.out.cell (World.block_lt_of_cell? w _ hw179_0)).trans hw179_0), ((HB.out.cell (World.block_lt_of_cell? w _ hw179_1)).trans hw179_1), ((HB.out.cell (World.block_lt_of_cell? w _ hw180_0)).trans hw180_0)⟩ (fun hHeld => ?_); refine mZ stratumlaw07_Facts.tab9 stratumlaw07_Facts.bits9 (fun HT_ HW_ => ?_)
                generalize wr.drew = w16 at HO_3 HO_178000 BK177 HB HR179_0 hx179_0 hx179_1 hx180_0 hHeld ⊢
                refine jL (i := 0) (N := some 37) (v := ?_) (a' := ?_) #[true, false, false, false, false, false, false, false, false, false, false, false, false, false, false, false] rfl rfl (jF HT_.out (by kernel_rfl)) (fun _ _ _ h => h) (Or.inl ⟨by rfl, ?_⟩) ?_ ?_
                rotate_left
                ·intro w'
                 go_simp
                 with_reducible rfl
                rotate_left
                ·simp only [Act.put, List.setIfInBounds_toArray, List.set_cons_zero, List.set_cons_succ, iR, jG]
                 rfl
                refine jL (i := 2) (N := some 39) (v := ?_) (a' := ?_) #[true, false, true, false, false, false, false, false, false, false, false, false, false, false, false, false] rfl rfl (jF HT_.out (by kernel_rfl)) (fun _ _ _ h => h) (Or.inl ⟨by rfl, ?_⟩) ?_ ?_
                rotate_left
                ·intro w'
                 go_simp
                 with_reducible rfl
                rotate_left
                ·simp only [Act.put, List.setIfInBounds_toArray, List.set_cons_zero, List.set_cons_succ, iR, jG]
                 rfl
                refine jL (i := 3) (N := some 40) (v := ?_) (a' := ?_) #[true, false, true, true, false, false, false, false, false, false, false, false, false, false, false, false] rfl rfl (jF HT_.out (by kernel_rfl)) (fun _ _ _ h => h) (Or.inl ⟨by rfl, ?_⟩) ?_ ?_
                rotate_left
                ·intro w'
                 go_simp
                 with_reducible rfl
                rotate_left
                ·simp only [Act.put, List.setIfInBounds_toArray, List.set_cons_zero, List.set_cons_succ, iR, jG]
                 rfl
                refine jL (i := 4) (N := some 41) (v := ?_) (a' := ?_) #[true, false, true, true, true, false, false, false, false, false, false, false, false, false, false, false] rfl rfl (jF HT_.out (by kernel_rfl)) (fun _ _ _ h => h) (Or.inl ⟨by rfl, ?_⟩) ?_ ?_
                rotate_left
                ·intro w'
                 go_simp
                 with_reducible rfl
                rotate_left
                ·simp only [Act.put, List.setIfInBounds_toArray, List.set_cons_zero, List.set_cons_succ, iR, jG]
                 rfl
                refine jL (i := 5) (N := some 42) (v := ?_) (a' := ?_) #[true, false, true, true, true, true, false, false, false, false, false, false, false, false, false, false] rfl rfl (jF HT_.out (by kernel_rfl)) (fun _ _ _ h => h) (Or.inl ⟨by rfl, ?_⟩) ?_ ?_
                rotate_left
                ·intro w'
                 go_simp
                 with_reducible rfl
                rotate_left
                ·simp only [Act.put, List.setIfInBounds_toArray, List.set_cons_zero, List.set_cons_succ, iR, jG]
                 rfl
                refine jL (i := 7) (N := some 44) (v := ?_) (a' := ?_) #[true, false, true, true, true, true, false, true, false, false, false, false, false, false, false, false] rfl rfl (jF HT_.out (by kernel_rfl)) (fun _ _ _ h => h) (Or.inl ⟨by rfl, ?_⟩) ?_ ?_
                rotate_left
                ·intro w'
                 go_simp
                 with_reducible rfl
                rotate_left
                ·simp only [Act.put, List.setIfInBounds_toArray, List.set_cons_zero, List.set_cons_succ, iR, jG]
                 rfl
                refine rW (i := 1) (N := some 38) (v := ?_) (a' := ?_) #[true, true, true, true, true, true, false, true, false, false, false, false, false, false, false, false] rfl rfl (lI HT_.out HW_.out (by kernel_rfl)) (fun _ _ _ h => h) (Or.inl ⟨by rfl, ?_⟩) hHeld ?_ ?_
                rotate_left
                ·rintro w' ⟨s0, s1, s2, s3, s4⟩
                 go_simp
                 with_reducible rfl
                rotate_left
                ·simp only [Act.put, List.setIfInBounds_toArray, List.set_cons_zero, List.set_cons_succ, iR, jG]
                 rfl
                refine rW (i := 6) (N := some 43) (v := ?_) (a' := ?_) #[true, true, true, true, true, true, true, true, false, false, false, false, false, false, false, false] rfl rfl (lI HT_.out HW_.out (by kernel_rfl)) (fun _ _ _ h => h) (Or.inl ⟨by rfl, ?_⟩) hHeld ?_ ?_
                rotate_left
                ·rintro w' ⟨s0, s1, s2, s3, s4⟩
                 go_simp
                 with_reducible rfl
                rotate_left
                ·simp only [Act.put, List.setIfInBounds_toArray, List.set_cons_zero, List.set_cons_succ, iR, jG]
                 rfl
                refine jL (i := 8) (N := some 45) (v := ?_) (a' := ?_) #[true, true, true, true, true, true, true, true, true, false, false, false, false, false, false, false] rfl rfl (jF HT_.out (by kernel_rfl)) (fun _ _ _ h => h) (Or.inl ⟨by rfl, ?_⟩) ?_ ?_
                rotate_left
                ·intro w'
                 go_simp
                 with_reducible rfl
                rotate_left
                ·simp only [Act.put, List.setIfInBounds_toArray, List.set_cons_zero, List.set_cons_succ, iR, jG]
                 rfl
                refine rW (i := 9) (N := some 46) (v := ?_) (a' := ?_) #[true, true, true, true, true, true, true, true, true, true, false, false, false, false, false, false] rfl rfl (lI HT_.out HW_.out (by kernel_rfl)) (fun _ _ _ h => h) (Or.inl ⟨by rfl, ?_⟩) hHeld ?_ ?_
                rotate_left
                ·rintro w' ⟨s0, s1, s2, s3, s4⟩
                 go_simp
                 with_reducible rfl
                rotate_left
                ·simp only [Act.put, List.setIfInBounds_toArray, List.set_cons_zero, List.set_cons_succ, iR, jG]
                 rfl
                refine jL (i := 10) (N := some 47) (v := ?_) (a' := ?_) #[true, true, true, true, true, true, true, true, true, true, true, false, false, false, false, false] rfl rfl (jF HT_.out (by kernel_rfl)) (fun _ _ _ h => h) (Or.inl ⟨by rfl, ?_⟩) ?_ ?_
                rotate_left
                ·intro w'
                 go_simp
                 with_reducible rfl
                rotate_left
                ·simp only [Act.put, List.setIfInBounds_toArray, List.set_cons_zero, List.set_cons_succ, iR, jG]
                 rfl
                refine jL (i := 11) (N := some 48) (v := ?_) (a' := ?_) #[true, true, true, true, true, true, true, true, true, true, true, true, false, false, false, false] rfl rfl (jF HT_.out (by kernel_rfl)) (fun _ _ _ h => h) (Or.inl ⟨by rfl, ?_⟩) ?_ ?_
                rotate_left
                ·intro w'
                 go_simp
                 with_reducible rfl
                rotate_left
                ·simp only [Act.put, List.setIfInBounds_toArray, List.set_cons_zero, List.set_cons_succ, iR, jG]
                 rfl
                refine one_ (i := 12) (N := some 49) #[true, true, true, true, true, true, true, true, true, true, true, true, true, false, false, false] rfl rfl (lW HT_.out (by kernel_rfl)) (by decide) (fun K hK => ?_)
                refine jH (w1 := ?_) (v := ?_) (by rfl) rfl ?_ ?_
                rotate_left 2
                ·go_simp
                 constructor
                 ·rfl
                 ·rfl
                refine hK.out _ _ ⟨(iE (iI BK177.out _) 0).trans rfl, (iE (iI BK177.out _) 1).trans rfl, (World.cell?_alloc_lt _ _ _ (World.block_lt_of_cell? _ _ (((HB.out.cell (World.block_lt_of_cell? w _ hw179_0)).trans hw179_0)))).trans (((HB.out.cell (World.block_lt_of_cell? w _ hw179_0)).trans hw179_0)), (World.cell?_alloc_lt _ _ _ (World.block_lt_of_cell? _ _ (((HB.out.cell (World.block_lt_of_cell? w _ hw179_1)).trans hw179_1)))).trans (((HB.out.cell (World.block_lt_of_cell? w _ hw179_1)).trans hw179_1)), (World.cell?_alloc_lt _ _ _ (World.block_lt_of_cell? _ _ (((HB.out.cell (World.block_lt_of_cell? w _ hw180_0)).trans hw180_0)))).trans (((HB.out.cell (World.block_lt_of_cell? w _ hw180_0)).trans hw180_0))⟩ (fun hHeld => ?_)
                clear hK K
                refine lN (a' := ?_) ?_ ?_
                rotate_left
                ·show Act.put _ (some 49) _ = _
                 simp only [Act.put, List.setIfInBounds_toArray, List.set_cons_zero, List.set_cons_succ, iR, jG]
                 rfl
                refine one_ (i := 13) (N := some 50) #[true, true, true, true, true, true, true, true, true, true, true, true, true, true, false, false] rfl rfl (lW HT_.out (by kernel_rfl)) (by decide) (fun K hK => ?_)
                refine Kd.R_append_step (Kd.int .i64) (w0 := w) w.heap.size (by rfl) (.tmp 38) (.tmp 49) 23 3 (.int .i64 0) 8 rfl Tryd.underlying23 info3 rfl (by decide) (by omega) u178000 x178000_3 ((ji14) % 10000) [.int .i64 ((ji14) % 10000)] (fun _ => True) (fun _ => False) rfl rfl ?aP (fun _ hk => hk.elim) ?aF ?aO ?aB ?aS ?aL ?_
                (case aP => exact rfl)
                (case aB => exact (by repeat (first | (with_reducible first | exact HB.out | apply iG | apply iF | apply iJ | refine iH ?_ GE177.out) | exact HB.out)))
                (case aF => exact (fun _ _ => trivial))
                (case aO => exact (by (with_reducible repeat (first | apply Kd.R_alloc | apply Kd.R_drewN | apply Kd.R_drew)); exact HO_178000.out))
                (case aS => exact (iQ (by repeat (first | (with_reducible first | exact HB.out | apply iG | apply iF | apply iJ | refine iH ?_ GE177.out) | exact HB.out))))
                (case aL => have := LMc15.out; omega)
                intro v182 w17 ho hb hg hat
                rw [← Ny181.out] at ho
                have n0_ := iC.mk (Kd.S_after (ok := (fun k_ => k_ ≠ gb177)) (by (with_reducible repeat (first | apply Kd.S_alloc | apply Kd.S_drewN | apply Kd.S_drew)); exact Kd.S_mono HO_3.out (fun _ hk => ⟨hk.2, hk.1⟩)) hg hat)
                have n1_ := iC.mk (nD (g := gb177) (o := .cells #[u178000, .int .i64 ((iZ l0 x4_1).f1)] 139 (0, 0)) (bk_ BK177.out) hg (Kd.R_ne HO_178000.out BK177.out (by decide)))
                have n2_ := iC.mk (hb)
                have n3_ := iC.mk (ho)
                clear HO_3
                clear BK177
                clear HB
                clear HO_178000
                have HO_3 := n0_
                have BK177 := n1_
                have HB := n2_
                have HO183 := n3_
                clear n0_ n1_ n2_ n3_
                clear ho hb hg hat
                obtain ⟨Ao18, co18, eo18⟩ := Kd.R_slice HO183.out
                (first | subst eo18 | (injection eo18 with f1_ f2_ f3_; have f4_ := f1_.symm; have f5_ := f3_.symm; clear f1_ f2_ f3_; subst f4_; subst f5_))
                refine hK.out _ _ ⟨(iE BK177.out 0).trans rfl, (iE BK177.out 1).trans rfl, ((HB.out.cell (World.block_lt_of_cell? w _ hw179_0)).trans hw179_0), ((HB.out.cell (World.block_lt_of_cell? w _ hw179_1)).trans hw179_1), ((HB.out.cell (World.block_lt_of_cell? w _ hw180_0)).trans hw180_0)⟩ (fun hHeld => ?_)
                clear hK K
                refine lN (a' := ?_) ?_ ?_
                rotate_left
                ·show Act.put _ (some 50) _ = _
                 simp only [Act.put, List.setIfInBounds_toArray, List.set_cons_zero, List.set_cons_succ, iR, jG]
                 rfl
                refine jL (i := 14) (N := some 51) (v := ?_) (a' := ?_) #[true, true, true, true, true, true, true, true, true, true, true, true, true, true, true, false] rfl rfl (jF HT_.out (by kernel_rfl)) (fun _ _ _ h => h) (Or.inl ⟨by rfl, ?_⟩) ?_ ?_
                rotate_left
                ·intro w'
                 go_simp
                 with_reducible rfl
                rotate_left
                ·simp only [Act.put, List.setIfInBounds_toArray, List.set_cons_zero, List.set_cons_succ, iR, jG]
                 rfl
                refine j1_ (i := 15) (N := none) #[true, true, true, true, true, true, true, true, true, true, true, true, true, true, true, true] rfl rfl (lW HT_.out (by kernel_rfl)) (by decide) (fun K hK => ?_)
                have hs19 : w17.cell? ⟨gb177, 0, none⟩ = some (u178000) := (iE BK177.out 0).trans rfl
                have hfs19 := iD BK177.out 0
                refine WQ (w1 := ?_) (by rfl) rfl ?_ ?_
                rotate_left
                ·go_simp
                 rfl
                refine hK.out _ _ ?_
                clear hK K
                refine JA (qG HT_.out (by kernel_rfl)) ?_
                try go_wp2
                go_roundg k3
                case measure => have := HK1.out; have := HJ1.out; have := HK3.out; omega
                case rel => exact ⟨(wrap64 (x6_3 + 1)), (y181), (.slice Ao18 y181.length co18), (by first | rfl | (simp; done) | (simp [*]; done)), H', ⟨by have := HK1.out; have := HJ1.out; have := HK3.out; omega⟩, ⟨by (with_reducible repeat (first | apply Kd.S_alloc | apply Kd.S_drewN | apply Kd.S_drew)); exact Kd.S_mono (Kd.S_far (p := ⟨gb177, 0, none⟩) (Kd.S_mono HO_3.out (fun k_ hk => (⟨hk, hk.1⟩ : _ ∧ k_ ≠ gb177))) (fun _ hk => hk.2) (.slice Ao18 y181.length co18)) (fun _ hk => ⟨hk.1.2, hk.1.1⟩)⟩, ⟨by (with_reducible repeat (first | apply Kd.R_alloc | apply Kd.R_drewN | apply Kd.R_drew)); exact Kd.R_mono (Kd.R_far (p := ⟨gb177, 0, none⟩) (Kd.R_types HO183.out BK177.out (by decide)) (fun _ hk => hk.2) (.slice Ao18 y181.length co18)) (fun _ hk => trivial)⟩, ⟨by (with_reducible repeat (first | refine iL ?_ _ | refine iM ?_ | refine iI ?_ _)); refine iY (cs := #[u178000, .int .i64 ((iZ l0 x4_1).f1)]) ?_ 0 _ rfl; (with_reducible repeat (first | refine iL ?_ _ | refine iM ?_ | refine iI ?_ _)); exact BK177.out⟩, ⟨by repeat (first | (with_reducible first | exact HB.out | apply iG | apply iF | apply iJ | refine iH ?_ GE177.out) | exact HB.out)⟩⟩
               ·rw [if_neg c15] at H
                exact absurd H (by simp)
              ·rw [if_neg c13] at H
               exact absurd H (by simp)
             ·rw [if_neg c12] at H
              have c12b0 : decide (x6_3 < 4) = false := decide_eq_false c12
              clear c12
              by_cases c20 : x3_1.length < 4398046511104
              ·rw [if_pos c20] at H
               have LMc20 := iC.mk c20
               clear c20
               obtain ⟨y184, hy184⟩ : ∃ y_ : List (S139), y_ = (x3_1 ++ [(⟨x178000_3, ((iZ l0 x4_1).f1)⟩ : S139)]) := ⟨_, rfl⟩
               replace H : (stratumlaw07_Facts.l0 k3 l0 y184 (wrap64 (x4_1 + 1))) = some r := by first | (rw [hy184]; with_reducible exact H) | (have H2_ := (Option.bind_some _ _).symm.trans H; rw [hy184]; with_reducible exact H2_) | (have H2_ := (Option.bind_some _ _).symm.trans H; with_reducible exact H2_) | with_reducible exact H | (rw [hy184]; exact H) | exact H
               have Ny184 := iC.mk hy184
               clear hy184
               have H' := iC.mk H
               clear H
               have p178 : 0 ≤ (x4_1 : Int) := of_decide_eq_true asm_
               have q178 : x4_1 < (l0.length : Int) := of_decide_eq_true asm_
               obtain ⟨ad178, A178_0, c178_0, e178, hx178_0, hx178_1, hl178_0, hi178_0⟩ := mQ HR0.out x4_1 p178 q178
               obtain rfl : ad176 = ad178 := (by injection e178)
               replace hx178_0 := (HB.out.cell (World.block_lt_of_cell? w _ hx178_0)).trans hx178_0
               replace hx178_1 := (HB.out.cell (World.block_lt_of_cell? w _ hx178_1)).trans hx178_1
               have HR178_0 := iC.mk hi178_0
               have HC178_0 := iC.mk hl178_0
               clear hi178_0 hl178_0
               replace p178 := eq_true p178
               replace q178 := eq_true q178
               have hcz21_0 : wr.cell? ⟨gb177, 0, none⟩ = some (u178000) := (iE BK177.out 0).trans rfl
               have hcz21_1 : wr.cell? ⟨gb177, 1, none⟩ = some (.int .i64 ((iZ l0 x4_1).f1)) := (iE BK177.out 1).trans rfl
               have hfz21_0 := iD BK177.out 0
               have hfz21_1 := iD BK177.out 1
               obtain ⟨Ao23, co23, eo23⟩ := Kd.R_slice HO_178000.out
               subst eo23
               go_wp2_with (first | ((with_reducible refine oU (b := .append) (xs := #[.tmp 52, .tmp 54]) rfl ?_); at_builtin; refine Kd.S_append k139 (w0 := w) w.heap.size rfl (.tmp 52) (.tmp 54) 24 139 (.agg #[(.slice none 0 0), (.int .i64 0)]) 32 rfl Tryd.underlying24 VW rfl (by decide) (by omega) u3 x3_1 (⟨x178000_3, ((iZ l0 x4_1).f1)⟩ : S139) [.slice Ao23 x178000_3.length co23, .int .i64 ((iZ l0 x4_1).f1)] (fun k_ => k_ ≠ gb177) (fun k_ => some k_ = (.slice Ao23 x178000_3.length co23 : Value).ownBlock) rfl rfl ?aP (fun k_ hk_ => ((Kd.R_mono (ok' := fun k_ => ((fun k_ => k_ ≠ gb177)) k_ ∧ some k_ ≠ (u3 : Value).ownBlock) (Kd.R_types (Kd.R_apart' (HO_178000.out) (Kd.S_typed HO_3.out) (by decide)) BK177.out (by decide)) (fun k_ hk => ⟨hk.2, hk.1.2⟩))).1 k_ hk_.symm) ?aF ?aO ?aB ?aS ?aL ?_; (case aP => exact JR _ _ _ (⟨x178000_3, ((iZ l0 x4_1).f1)⟩ : S139) (Kd.R_mono (Kd.R_tight rfl (Kd.R_mono (ok' := fun k_ => ((fun k_ => k_ ≠ gb177)) k_ ∧ some k_ ≠ (u3 : Value).ownBlock) (Kd.R_types (Kd.R_apart' (HO_178000.out) (Kd.S_typed HO_3.out) (by decide)) BK177.out (by decide)) (fun k_ hk => ⟨hk.2, hk.1.2⟩))) (fun _ h_ => h_))); (case aB => exact (by repeat (first | (with_reducible first | exact HB.out | apply iG | apply iF | apply iJ | refine iH ?_ GE177.out) | exact HB.out))); (case aF => exact (fun k_ hk => Kd.freshB (g := gb177) (o := .cells #[.slice Ao23 x178000_3.length co23, .int .i64 ((iZ l0 x4_1).f1)] 139 (0, 0)) (bk_ BK177.out) k_ hk)); (case aO => exact (by (with_reducible repeat (first | apply Kd.S_alloc | apply Kd.S_drewN | apply Kd.S_drew)); exact Kd.S_mono HO_3.out (fun k_ hk => ⟨hk.2, fun e_ => hk.1 e_⟩))); (case aS => exact (iQ (by repeat (first | (with_reducible first | exact HB.out | apply iG | apply iF | apply iJ | refine iH ?_ GE177.out) | exact HB.out)))); (case aL => have := LMc20.out; omega); intro v185 w22 ho hb hg hat; rw [← Ny184.out] at ho; have n0_ := iC.mk (nD (g := gb177) (o := .cells #[.slice Ao23 x178000_3.length co23, .int .i64 ((iZ l0 x4_1).f1)] 139 (0, 0)) (bk_ BK177.out) hg (Kd.S_away HO_3.out (fun _ hk => hk.2))); have n1_ := iC.mk (hb); have n2_ := iC.mk (ho); clear BK177; clear HB; clear HO_3; clear HO_178000; have BK177 := n0_; have HB := n1_; have HO186 := n2_; clear n0_ n1_ n2_; clear ho hb hg hat))
               go_roundg k3
               case measure => have := HK1.out; have := HJ1.out; have := HK3.out; omega
               case rel => exact ⟨(y184), (wrap64 (x4_1 + 1)), (by first | rfl | (simp; done) | (simp [*]; done)), H', ⟨by have := HK1.out; have := HJ1.out; have := HK3.out; omega⟩, ⟨by (with_reducible repeat (first | apply Kd.S_alloc | apply Kd.S_drewN | apply Kd.S_drew)); exact Kd.S_mono HO186.out (fun _ hk => trivial)⟩, ⟨by repeat (first | (with_reducible first | exact HB.out | apply iG | apply iF | apply iJ | refine iH ?_ GE177.out) | exact HB.out)⟩⟩
              ·rw [if_neg c20] at H
               exact absurd H (by simp)
            ·rw [if_neg c11] at H
             have c11b0 : decide (x6_3 < (((iZ l0 x4_1).f0).length : Int)) = false := decide_eq_false c11
             clear c11
             by_cases c24 : x3_1.length < 4398046511104
             ·rw [if_pos c24] at H
              have LMc24 := iC.mk c24
              clear c24
              obtain ⟨y187, hy187⟩ : ∃ y_ : List (S139), y_ = (x3_1 ++ [(⟨x178000_3, ((iZ l0 x4_1).f1)⟩ : S139)]) := ⟨_, rfl⟩
              replace H : (stratumlaw07_Facts.l0 k3 l0 y187 (wrap64 (x4_1 + 1))) = some r := by first | (rw [hy187]; with_reducible exact H) | (have H2_ := (Option.bind_some _ _).symm.trans H; rw [hy187]; with_reducible exact H2_) | (have H2_ := (Option.bind_some _ _).symm.trans H; with_reducible exact H2_) | with_reducible exact H | (rw [hy187]; exact H) | exact H
              have Ny187 := iC.mk hy187
              clear hy187
              have H' := iC.mk H
              clear H
              have p178 : 0 ≤ (x4_1 : Int) := of_decide_eq_true asm_
              have q178 : x4_1 < (l0.length : Int) := of_decide_eq_true asm_
              obtain ⟨ad178, A178_0, c178_0, e178, hx178_0, hx178_1, hl178_0, hi178_0⟩ := mQ HR0.out x4_1 p178 q178
              obtain rfl : ad176 = ad178 := (by injection e178)
              replace hx178_0 := (HB.out.cell (World.block_lt_of_cell? w _ hx178_0)).trans hx178_0
              replace hx178_1 := (HB.out.cell (World.block_lt_of_cell? w _ hx178_1)).trans hx178_1
              have HR178_0 := iC.mk hi178_0
              have HC178_0 := iC.mk hl178_0
              clear hi178_0 hl178_0
              replace p178 := eq_true p178
              replace q178 := eq_true q178
              have hcz25_0 : wr.cell? ⟨gb177, 0, none⟩ = some (u178000) := (iE BK177.out 0).trans rfl
              have hcz25_1 : wr.cell? ⟨gb177, 1, none⟩ = some (.int .i64 ((iZ l0 x4_1).f1)) := (iE BK177.out 1).trans rfl
              have hfz25_0 := iD BK177.out 0
              have hfz25_1 := iD BK177.out 1
              obtain ⟨Ao27, co27, eo27⟩ := Kd.R_slice HO_178000.out
              subst eo27
              go_wp2_with (first | ((with_reducible refine oU (b := .append) (xs := #[.tmp 52, .tmp 54]) rfl ?_); at_builtin; refine Kd.S_append k139 (w0 := w) w.heap.size rfl (.tmp 52) (.tmp 54) 24 139 (.agg #[(.slice none 0 0), (.int .i64 0)]) 32 rfl Tryd.underlying24 VW rfl (by decide) (by omega) u3 x3_1 (⟨x178000_3, ((iZ l0 x4_1).f1)⟩ : S139) [.slice Ao27 x178000_3.length co27, .int .i64 ((iZ l0 x4_1).f1)] (fun k_ => k_ ≠ gb177) (fun k_ => some k_ = (.slice Ao27 x178000_3.length co27 : Value).ownBlock) rfl rfl ?aP (fun k_ hk_ => ((Kd.R_mono (ok' := fun k_ => ((fun k_ => k_ ≠ gb177)) k_ ∧ some k_ ≠ (u3 : Value).ownBlock) (Kd.R_types (Kd.R_apart' (HO_178000.out) (Kd.S_typed HO_3.out) (by decide)) BK177.out (by decide)) (fun k_ hk => ⟨hk.2, hk.1.2⟩))).1 k_ hk_.symm) ?aF ?aO ?aB ?aS ?aL ?_; (case aP => exact JR _ _ _ (⟨x178000_3, ((iZ l0 x4_1).f1)⟩ : S139) (Kd.R_mono (Kd.R_tight rfl (Kd.R_mono (ok' := fun k_ => ((fun k_ => k_ ≠ gb177)) k_ ∧ some k_ ≠ (u3 : Value).ownBlock) (Kd.R_types (Kd.R_apart' (HO_178000.out) (Kd.S_typed HO_3.out) (by decide)) BK177.out (by decide)) (fun k_ hk => ⟨hk.2, hk.1.2⟩))) (fun _ h_ => h_))); (case aB => exact (by repeat (first | (with_reducible first | exact HB.out | apply iG | apply iF | apply iJ | refine iH ?_ GE177.out) | exact HB.out))); (case aF => exact (fun k_ hk => Kd.freshB (g := gb177) (o := .cells #[.slice Ao27 x178000_3.length co27, .int .i64 ((iZ l0 x4_1).f1)] 139 (0, 0)) (bk_ BK177.out) k_ hk)); (case aO => exact (by (with_reducible repeat (first | apply Kd.S_alloc | apply Kd.S_drewN | apply Kd.S_drew)); exact Kd.S_mono HO_3.out (fun k_ hk => ⟨hk.2, fun e_ => hk.1 e_⟩))); (case aS => exact (iQ (by repeat (first | (with_reducible first | exact HB.out | apply iG | apply iF | apply iJ | refine iH ?_ GE177.out) | exact HB.out)))); (case aL => have := LMc24.out; omega); intro v188 w26 ho hb hg hat; rw [← Ny187.out] at ho; have n0_ := iC.mk (nD (g := gb177) (o := .cells #[.slice Ao27 x178000_3.length co27, .int .i64 ((iZ l0 x4_1).f1)] 139 (0, 0)) (bk_ BK177.out) hg (Kd.S_away HO_3.out (fun _ hk => hk.2))); have n1_ := iC.mk (hb); have n2_ := iC.mk (ho); clear BK177; clear HB; clear HO_3; clear HO_178000; have BK177 := n0_; have HB := n1_; have HO189 := n2_; clear n0_ n1_ n2_; clear ho hb hg hat))
              go_roundg k3
              case measure => have := HK1.out; have := HJ1.out; have := HK3.out; omega
              case rel => exact ⟨(y187), (wrap64 (x4_1 + 1)), (by first | rfl | (simp; done) | (simp [*]; done)), H', ⟨by have := HK1.out; have := HJ1.out; have := HK3.out; omega⟩, ⟨by (with_reducible repeat (first | apply Kd.S_alloc | apply Kd.S_drewN | apply Kd.S_drew)); exact Kd.S_mono HO189.out (fun _ hk => trivial)⟩, ⟨by repeat (first | (with_reducible first | exact HB.out | apply iG | apply iF | apply iJ | refine iH ?_ GE177.out) | exact HB.out)⟩⟩
             ·rw [if_neg c24] at H
              exact absurd H (by simp)
           ·rw [if_neg c10] at H
            exact absurd H (by simp)
          ·rw [if_neg c9] at H
           exact absurd H (by simp)
       ·rw [if_neg c6] at H
        exact absurd H (by simp)
      ·rw [if_neg c5] at H
       exact absurd H (by simp)
     ·replace c4 := Bool.eq_false_iff.mpr c4
      subst c4
      have H1 : (some x3_1) = some r := by rw [if_neg (show ¬ (false = true) by decide)] at H; exact H
      clear H
      have H := H1
      clear H1
      obtain rfl := Option.some.inj H
      go_wp2
      go_ret
      exact ⟨_, by first | rfl | (simp [iW, iV] <;> rfl) | (simp [*, iW, iV] <;> rfl), by (with_reducible repeat (first | apply Kd.S_alloc | apply Kd.S_drewN | apply Kd.S_drew)); exact HO_3.out, hb_⟩
theorem stratumlaw07_Facts.calls (k : Nat) (A0 : Option Addr) (c0 : Nat) (l0 : List (S139)) (r : List (S139)) (w : World) (hr0 : Kd.C k139 w A0 l0.length l0) (hc0 : l0.length ≤ c0) (h : stratumlaw07_Facts.f k l0 = some r) :
  Calls Tryd.prog 73 #[.slice A0 l0.length c0] w fun e w' => ∃ v0_ : Value, e = .returned (v0_) ∧ Kd.R k139 139 w' w.heap.size (fun _ => True) v0_ r ∧ Below w.heap.size w w' :=
 (stratumlaw07_Facts.callsS k A0 c0 l0 r w hr0 hc0 h).mono fun _ _ ⟨v, he, hs, hb⟩ => ⟨v, he, Kd.S_R hs, hb⟩
end Go.Proofs.YtgfkgppomaapiaaDoor.K
end

section
namespace Go.Proofs.YtgfkgppomaapiaaDoor.K
open Go.RowKit Go.Proofs.YtgfkgppomaapiaaDoorW.PrintWords Go.Proofs.YtgfkgppomaapiaaDoorW.PrintLast Go.Proofs.YtgfkgppomaapiaaDoorW.PrintMore
attribute [local go_sem] kF kD kN kM
mutual
def stratumlaw07_Make.l0 : Nat → Int → Int → List (S139) → List Int → Int → Int → List (S86) → List Int → Int → Int → Int → Int → Int → Int → Int → Option (Int × Int × Int × List Int × (List (S139)) × Int × (List (S98)) × Int × Int × (List (S86)))
 | 0, _, _, _, _, _, _, _, _, _, _, _, _, _, _, _ => none
 | k + 1, x2, x3, x4, x5, x6, x7, x8, x20, x21, x189000, x189001, x189002, x189005, x189007, x189008 => if x21 < 6 then (if 0 ≤ (IntKind.u64.wrap (x21)) then (if (Go.bits .and .u8 (shr .u8 x3 (IntKind.u64.wrap (x21))) 1) = 1 then (if x20.length < 17592186044416 then (stratumlaw07_Make.l0 k x2 x3 x4 x5 x6 x7 x8 (x20 ++ [x21]) (wrap64 (x21 + 1)) x189000 x189001 x189002 x189005 x189007 x189008) else (none)) else (stratumlaw07_Make.l0 k x2 x3 x4 x5 x6 x7 x8 x20 (wrap64 (x21 + 1)) x189000 x189001 x189002 x189005 x189007 x189008)) else (none)) else (if x189000 = 1 then ((stratumlaw07_Facts.f k x4).bind fun t192 => (some (x189000, x189001, x189002, x20, t192, x189005, ([] : List (S98)), x189007, x189008, ([] : List (S86))))) else (if x189000 = 2 then (some (x189000, x189001, x2, x20, ([] : List (S139)), x189005, ([] : List (S98)), x189007, x189008, ([] : List (S86)))) else (if x189000 = 6 then (stratumlaw07_Make.l1 k x5 0 x189000 0 x189002 x2 ([] : List (S98)) x189007 x189008) else (if x189000 = 7 then (stratumlaw07_Make.l2 k x8 0 0 x189000 x189001 x189002 x189005 (Int.tmod (wrap64 (x6)) 10001) (Int.tmod (wrap64 (x7)) 10001) ([] : List (S86))) else (some (x189000, x189001, x189002, ([] : List Int), ([] : List (S139)), x189005, ([] : List (S98)), x189007, x189008, ([] : List (S86))))))))
def stratumlaw07_Make.l1 : Nat → List Int → Int → Int → Int → Int → Int → List (S98) → Int → Int → Option (Int × Int × Int × List Int × (List (S139)) × Int × (List (S98)) × Int × Int × (List (S86)))
 | 0, _, _, _, _, _, _, _, _, _ => none
 | k + 1, x5, x22, x189000, x189001, x189002, x189005, x189006, x189007, x189008 => if x22 < (x5.length : Int) then (if x22 < 40 then (if 0 ≤ x22 then (if x189006.length < 8796093022208 then (stratumlaw07_Make.l1 k x5 (wrap64 (x22 + 1)) x189000 x189001 x189002 x189005 (x189006 ++ [(⟨Int.tmod (wrap64 (rd x5 x22)) 10000, Int.tmod (wrap64 (rd x5 x22)) 6⟩ : S98)]) x189007 x189008) else (none)) else (none)) else (some (x189000, x189001, x189002, ([] : List Int), ([] : List (S139)), x189005, x189006, x189007, x189008, ([] : List (S86))))) else (some (x189000, x189001, x189002, ([] : List Int), ([] : List (S139)), x189005, x189006, x189007, x189008, ([] : List (S86))))
def stratumlaw07_Make.l2 : Nat → List (S86) → Int → Int → Int → Int → Int → Int → Int → Int → List (S86) → Option (Int × Int × Int × List Int × (List (S139)) × Int × (List (S98)) × Int × Int × (List (S86)))
 | 0, _, _, _, _, _, _, _, _, _, _ => none
 | k + 1, x8, x23, x24, x189000, x189001, x189002, x189005, x189007, x189008, x189009 => if x24 < (x8.length : Int) then (if x24 < 50 then (if 0 ≤ x24 then ((stratumlaw07_Facts.f k ((iU x8 x24).f1)).bind fun t202 => (if x189009.length < 4398046511104 then (stratumlaw07_Make.l2 k x8 ((x23 + (1 + (Int.tmod ((iU x8 x24).f0) 1000))) % 4294967296) (wrap64 (x24 + 1)) x189000 x189001 x189002 x189005 x189007 x189008 (x189009 ++ [(⟨(x23 + (1 + (Int.tmod ((iU x8 x24).f0) 1000))) % 4294967296, t202⟩ : S86)])) else (none))) else (none)) else (some (x189000, x189001, x189002, ([] : List Int), ([] : List (S139)), x189005, ([] : List (S98)), x189007, x189008, x189009))) else (some (x189000, x189001, x189002, ([] : List Int), ([] : List (S139)), x189005, ([] : List (S98)), x189007, x189008, x189009))
end
def stratumlaw07_Make.f (k : Nat) (a0 : Int) (a1 : Int) (a2 : Int) (a3 : Int) (l4 : List (S139)) (l5 : List Int) (a6 : Int) (a7 : Int) (l8 : List (S86)) : Option (Int × Int × Int × List Int × (List (S139)) × Int × (List (S98)) × Int × Int × (List (S86))) := stratumlaw07_Make.l0 k a2 a3 l4 l5 a6 a7 l8 ([] : List Int) 0 ((1 + (Int.tmod a0 7)) % 256) a1 0 0 0 0
def stratumlaw07_Make.T21 : Bool × List (List Nat × List Nat) := (true, [([], []), ([0], [0]), ([1], [1]), ([], []), ([], []), ([3, 4], [3, 4]), ([5], [5]), ([6], [6]), ([7], [7]), ([], []), ([], []), ([9, 10], [9, 10]), ([11], [11]), ([12], [12]), ([13], [13]), ([8, 14], [8, 14]), ([15], [15]), ([2, 16], [2, 16]), ([0, 1, 2, 3, 4, 5, 6, 7, 8, 9, 10, 11, 12, 13, 14, 15, 16, 17], []), ([18, 0, 1, 2, 3, 4, 5, 6, 7, 8, 9, 10, 11, 12, 13, 14, 15, 16, 17], [18]), ([19, 17, 17, 0, 1, 2, 3, 4, 5, 6, 7, 8, 9, 10, 11, 12, 13, 14, 15, 16, 17], [17, 19])])
def stratumlaw07_Make.B21 : List Nat := [0, 1, 3, 0, 0, 24, 56, 120, 248, 0, 0, 1536, 3584, 7680, 15872, 32760, 65528, 131071, 262143, 524287, 1048575]
theorem stratumlaw07_Make.tab21 : rtab .any (opsOf Tryd.f21 21) = stratumlaw07_Make.T21 := by kernel_rfl
theorem stratumlaw07_Make.bits21 : lX stratumlaw07_Make.T21.2 stratumlaw07_Make.B21 = true := by kernel_rfl
def stratumlaw07_Make.T30 : Bool × List (List Nat × List Nat) := (true, [([], []), ([0], [0]), ([], []), ([], []), ([], []), ([3, 4], [3, 4]), ([5], [5]), ([6], [6]), ([7], [7]), ([2, 8], [2, 8]), ([9], [9]), ([1, 10, 8], [1, 10]), ([0, 1, 2, 3, 4, 5, 6, 7, 8, 9, 10, 11], []), ([12, 11, 11, 0, 1, 2, 3, 4, 5, 6, 7, 8, 9, 10, 11], [11, 12])])
def stratumlaw07_Make.B30 : List Nat := [0, 1, 0, 0, 0, 24, 56, 120, 248, 508, 1020, 2047, 4095, 8191]
theorem stratumlaw07_Make.tab30 : rtab .any (opsOf Tryd.f21 30) = stratumlaw07_Make.T30 := by kernel_rfl
theorem stratumlaw07_Make.bits30 : lX stratumlaw07_Make.T30.2 stratumlaw07_Make.B30 = true := by kernel_rfl
set_option maxHeartbeats 8000000 in
set_option maxRecDepth 100000 in
theorem stratumlaw07_Make.calls (k : Nat) (a0 : Int) (a1 : Int) (a2 : Int) (a3 : Int) (A4 : Option Addr) (c4 : Nat) (l4 : List (S139)) (A5 : Option Addr) (c5 : Nat) (l5 : List Int) (a6 : Int) (a7 : Int) (A8 : Option Addr) (c8 : Nat) (l8 : List (S86)) (r1 : Int) (r2 : Int) (r3 : Int) (r4 : List Int) (r5 : List (S139)) (r6 : Int) (r7 : List (S98)) (r8 : Int) (r9 : Int) (r10 : List (S86)) (w : World) (hr4 : Kd.C k139 w A4 l4.length l4) (hc4 : l4.length ≤ c4) (hr5 : Kd.C (Kd.int .u16) w A5 l5.length l5) (hc5 : l5.length ≤ c5) (hr8 : Kd.C k86 w A8 l8.length l8) (hc8 : l8.length ≤ c8) (h : stratumlaw07_Make.f k a0 a1 a2 a3 l4 l5 a6 a7 l8 = some (r1, r2, r3, r4, r5, r6, r7, r8, r9, r10)) :
  Calls Tryd.prog 21 #[.int .u8 a0, .int .u32 a1, .int .u32 a2, .int .u8 a3, .slice A4 l4.length c4, .slice A5 l5.length c5, .int .u16 a6, .int .u16 a7, .slice A8 l8.length c8] w fun e w' => ∃ v3_ v4_ v6_ v9_ : Value, e = .returned (.agg #[.int .u8 r1, .int .u32 r2, .int .u32 r3, v3_, v4_, .int .u32 r6, v6_, .int .i64 r8, .int .i64 r9, v9_]) ∧ Kd.R (Kd.int .i64) 3 w' w.heap.size (fun _ => True) v3_ r4 ∧ Kd.R k139 139 w' w.heap.size (fun k_ => some k_ ≠ (v3_ : Value).ownBlock) v4_ r5 ∧ Kd.R k98 98 w' w.heap.size (fun _ => True) v6_ r7 ∧ Kd.R k86 86 w' w.heap.size (fun k_ => some k_ ≠ (v3_ : Value).ownBlock ∧ some k_ ≠ (v4_ : Value).ownBlock) v9_ r10 ∧ Below w.heap.size w w' := by
 have hu30 := Tryd.underlying30
 have hu98 := Tryd.underlying98
 have hu86 := Tryd.underlying86
 have HR4 := iC.mk hr4
 have HC4 := iC.mk hc4
 clear hr4 hc4
 have HR5 := iC.mk hr5
 have HC5 := iC.mk hc5
 clear hr5 hc5
 have HR8 := iC.mk hr8
 have HC8 := iC.mk hc8
 clear hr8 hc8
 have HB := iC.mk (Below.refl w.heap.size w)
 have H : (stratumlaw07_Make.l0 k a2 a3 l4 l5 a6 a7 l8 ([] : List Int) 0 ((1 + (Int.tmod a0 7)) % 256) a1 0 0 0 0) = some (r1, r2, r3, r4, r5, r6, r7, r8, r9, r10) := h
 clear h
 have H' := iC.mk H
 clear H
 go_enter Tryd.func21, Tryd.ntmps21
 go_wp2_with (first | ((with_reducible refine jY (N := 18) rfl ?_); refine jQ ?hg (N := 18) ?hd (cs := #[.int .u8 0, .int .u32 0, .int .u32 0, .slice none 0 0, .slice none 0 0, .int .u32 0, .slice none 0 0, .int .i64 0, .int .i64 0, .slice none 0 0]) (t := 30) ?hr ?_; (case hd => rfl); (case hg => rfl); (case hr => first | (go_simp; done) | (go_simp; rfl)); intro gb187 hg w10 hbox hb; have n0_ := iC.mk (iK hb_ hb); have n1_ := iC.mk (hbox); have n2_ := iC.mk ((by rw [hg]; exact (iQ hb_) : w.heap.size ≤ gb187)); have n3_ := iC.mk ((by rw [hg]; exact (iQ hb_) : w.heap.size ≤ gb187)); clear HB; have HB := n0_; have BK187 := n1_; have GW187 := n2_; have GE187 := n3_; clear n0_ n1_ n2_ n3_; clear hb hbox hg) | ((with_reducible refine jY (N := 19) rfl ?_); refine jQ ?hg (N := 19) ?hd (cs := #[.int .u8 0, .int .u32 0, .int .u32 0, .slice none 0 0, .slice none 0 0, .int .u32 0, .slice none 0 0, .int .i64 0, .int .i64 0, .slice none 0 0]) (t := 30) ?hr ?_; (case hd => rfl); (case hg => rfl); (case hr => first | (go_simp; done) | (go_simp; rfl)); intro gb188 hg w11 hbox hb; have n0_ := iC.mk (jS (g := gb187) (o := .cells #[.int .u8 0, .int .u32 0, .int .u32 0, .slice none 0 0, .slice none 0 0, .int .u32 0, .slice none 0 0, .int .i64 0, .int .i64 0, .slice none 0 0] 30 (0, 0)) (bk_ BK187.out) hb); have n1_ := iC.mk (iK (by repeat (first | (with_reducible first | exact HB.out | apply iG | apply iF | apply iJ | refine iH ?_ GE187.out) | exact HB.out)) hb); have n2_ := iC.mk (hbox); have n3_ := iC.mk ((by rw [hg]; exact (iQ (by repeat (first | (with_reducible first | exact HB.out | apply iG | apply iF | apply iJ | refine iH ?_ GE187.out) | exact HB.out))) : w.heap.size ≤ gb188)); have n4_ := iC.mk ((by rw [hg]; exact (iQ (by repeat (first | (with_reducible first | exact HB.out | apply iG | apply iF | apply iJ | refine iH ?_ GE187.out) | exact HB.out))) : w.heap.size ≤ gb188)); have n5_ := iC.mk ((by rw [hg]; exact Nat.ne_of_lt (jU (g := gb187) (o := .cells #[.int .u8 0, .int .u32 0, .int .u32 0, .slice none 0 0, .slice none 0 0, .int .u32 0, .slice none 0 0, .int .i64 0, .int .i64 0, .slice none 0 0] 30 (0, 0)) (bk_ BK187.out)) : gb187 ≠ gb188)); have n6_ := iC.mk ((by rw [hg]; exact Nat.ne_of_gt (jU (g := gb187) (o := .cells #[.int .u8 0, .int .u32 0, .int .u32 0, .slice none 0 0, .slice none 0 0, .int .u32 0, .slice none 0 0, .int .i64 0, .int .i64 0, .slice none 0 0] 30 (0, 0)) (bk_ BK187.out)) : gb188 ≠ gb187)); clear BK187; clear HB; have BK187 := n0_; have HB := n1_; have BK188 := n2_; have GW188 := n3_; have GE188 := n4_; have NB187_188 := n5_; have NB188_187 := n6_; clear n0_ n1_ n2_ n3_ n4_ n5_ n6_; clear hb hbox hg; have hnb12 := NB188_187.out; have hnc12 := NB187_188.out; have hcz13_0 : w11.cell? ⟨gb188, 0, none⟩ = some (.int .u8 0) := (iE BK188.out 0).trans rfl; have hcz13_1 : w11.cell? ⟨gb188, 1, none⟩ = some (.int .u32 0) := (iE BK188.out 1).trans rfl; have hcz13_2 : w11.cell? ⟨gb188, 2, none⟩ = some (.int .u32 0) := (iE BK188.out 2).trans rfl; have hcz13_3 : w11.cell? ⟨gb188, 3, none⟩ = some (.slice none 0 0) := (iE BK188.out 3).trans rfl; have hcz13_4 : w11.cell? ⟨gb188, 4, none⟩ = some (.slice none 0 0) := (iE BK188.out 4).trans rfl; have hcz13_5 : w11.cell? ⟨gb188, 5, none⟩ = some (.int .u32 0) := (iE BK188.out 5).trans rfl; have hcz13_6 : w11.cell? ⟨gb188, 6, none⟩ = some (.slice none 0 0) := (iE BK188.out 6).trans rfl; have hcz13_7 : w11.cell? ⟨gb188, 7, none⟩ = some (.int .i64 0) := (iE BK188.out 7).trans rfl; have hcz13_8 : w11.cell? ⟨gb188, 8, none⟩ = some (.int .i64 0) := (iE BK188.out 8).trans rfl; have hcz13_9 : w11.cell? ⟨gb188, 9, none⟩ = some (.slice none 0 0) := (iE BK188.out 9).trans rfl; have hfz13_0 := iD BK188.out 0; have hfz13_1 := iD BK188.out 1; have hfz13_2 := iD BK188.out 2; have hfz13_3 := iD BK188.out 3; have hfz13_4 := iD BK188.out 4; have hfz13_5 := iD BK188.out 5; have hfz13_6 := iD BK188.out 6; have hfz13_7 := iD BK188.out 7; have hfz13_8 := iD BK188.out 8; have hfz13_9 := iD BK188.out 9))
 go_loopg [20, 21] k (fun kq v20 v21 w' => ∃ (x20_1 : List Int) (x21_1 : Int), v21 = .int .i64 x21_1 ∧ iC (stratumlaw07_Make.l0 kq a2 a3 l4 l5 a6 a7 l8 x20_1 x21_1 ((1 + (Int.tmod a0 7)) % 256) a1 0 0 0 0 = some (r1, r2, r3, r4, r5, r6, r7, r8, r9, r10)) ∧ iC (kq ≤ k) ∧ iC (Kd.R (Kd.int .i64) 3 w' w.heap.size (fun _ => True) v20 x20_1) ∧ iC (w'.heap[gb187]? = some (.cells #[.int .u8 0, .int .u32 0, .int .u32 0, (.slice none 0 0), (.slice none 0 0), .int .u32 0, (.slice none 0 0), .int .i64 0, .int .i64 0, (.slice none 0 0)] 30 (0, 0))) ∧ iC (w'.heap[gb188]? = some (.cells #[.int .u8 ((1 + (Int.tmod a0 7)) % 256), .int .u32 a1, .int .u32 0, (.slice none 0 0), (.slice none 0 0), .int .u32 0, (.slice none 0 0), .int .i64 0, .int .i64 0, (.slice none 0 0)] 30 (0, 0))) ∧ iC (Below w.heap.size w w'))
 case atStart => exact ⟨(([] : List Int)), (0), (by first | rfl | (simp; done) | (simp [*]; done)), H', ⟨Nat.le_refl _⟩, ⟨by first | exact Kd.R_nil _ _ _ _ _ | exact Kd.N_nil _ _ _ _ _ | exact Kd.V_nil _ _ _ _ _ | exact Kd.Q_nil _ _ _ _ _ | exact Kd.S_nil _ _ _ _ _⟩, ⟨by (with_reducible repeat (first | refine iL ?_ _ | refine iM ?_ | refine iI ?_ _)); refine jZ ?_ NB187_188.out _; (with_reducible repeat (first | refine iL ?_ _ | refine iM ?_ | refine iI ?_ _)); refine jZ ?_ NB187_188.out _; (with_reducible repeat (first | refine iL ?_ _ | refine iM ?_ | refine iI ?_ _)); refine jZ ?_ NB187_188.out _; (with_reducible repeat (first | refine iL ?_ _ | refine iM ?_ | refine iI ?_ _)); refine jZ ?_ NB187_188.out _; (with_reducible repeat (first | refine iL ?_ _ | refine iM ?_ | refine iI ?_ _)); refine jZ ?_ NB187_188.out _; (with_reducible repeat (first | refine iL ?_ _ | refine iM ?_ | refine iI ?_ _)); refine jZ ?_ NB187_188.out _; (with_reducible repeat (first | refine iL ?_ _ | refine iM ?_ | refine iI ?_ _)); refine jZ ?_ NB187_188.out _; (with_reducible repeat (first | refine iL ?_ _ | refine iM ?_ | refine iI ?_ _)); refine jZ ?_ NB187_188.out _; (with_reducible repeat (first | refine iL ?_ _ | refine iM ?_ | refine iI ?_ _)); refine jZ ?_ NB187_188.out _; (with_reducible repeat (first | refine iL ?_ _ | refine iM ?_ | refine iI ?_ _)); refine jZ ?_ NB187_188.out _; (with_reducible repeat (first | refine iL ?_ _ | refine iM ?_ | refine iI ?_ _)); exact BK187.out⟩, ⟨by (with_reducible repeat (first | refine iL ?_ _ | refine iM ?_ | refine iI ?_ _)); refine iY (cs := #[.int .u8 ((1 + (Int.tmod a0 7)) % 256), .int .u32 a1, .int .u32 0, .slice none 0 0, .slice none 0 0, .int .u32 0, .slice none 0 0, .int .i64 0, .int .i64 0, .slice none 0 0]) ?_ 9 _ rfl; (with_reducible repeat (first | refine iL ?_ _ | refine iM ?_ | refine iI ?_ _)); refine iY (cs := #[.int .u8 ((1 + (Int.tmod a0 7)) % 256), .int .u32 a1, .int .u32 0, .slice none 0 0, .slice none 0 0, .int .u32 0, .slice none 0 0, .int .i64 0, .int .i64 0, .slice none 0 0]) ?_ 8 _ rfl; (with_reducible repeat (first | refine iL ?_ _ | refine iM ?_ | refine iI ?_ _)); refine iY (cs := #[.int .u8 ((1 + (Int.tmod a0 7)) % 256), .int .u32 a1, .int .u32 0, .slice none 0 0, .slice none 0 0, .int .u32 0, .slice none 0 0, .int .i64 0, .int .i64 0, .slice none 0 0]) ?_ 7 _ rfl; (with_reducible repeat (first | refine iL ?_ _ | refine iM ?_ | refine iI ?_ _)); refine iY (cs := #[.int .u8 ((1 + (Int.tmod a0 7)) % 256), .int .u32 a1, .int .u32 0, .slice none 0 0, .slice none 0 0, .int .u32 0, .slice none 0 0, .int .i64 0, .int .i64 0, .slice none 0 0]) ?_ 6 _ rfl; (with_reducible repeat (first | refine iL ?_ _ | refine iM ?_ | refine iI ?_ _)); refine iY (cs := #[.int .u8 ((1 + (Int.tmod a0 7)) % 256), .int .u32 a1, .int .u32 0, .slice none 0 0, .slice none 0 0, .int .u32 0, .slice none 0 0, .int .i64 0, .int .i64 0, .slice none 0 0]) ?_ 5 _ rfl; (with_reducible repeat (first | refine iL ?_ _ | refine iM ?_ | refine iI ?_ _)); refine iY (cs := #[.int .u8 ((1 + (Int.tmod a0 7)) % 256), .int .u32 a1, .int .u32 0, .slice none 0 0, .slice none 0 0, .int .u32 0, .slice none 0 0, .int .i64 0, .int .i64 0, .slice none 0 0]) ?_ 4 _ rfl; (with_reducible repeat (first | refine iL ?_ _ | refine iM ?_ | refine iI ?_ _)); refine iY (cs := #[.int .u8 ((1 + (Int.tmod a0 7)) % 256), .int .u32 a1, .int .u32 0, .slice none 0 0, .slice none 0 0, .int .u32 0, .slice none 0 0, .int .i64 0, .int .i64 0, .slice none 0 0]) ?_ 3 _ rfl; (with_reducible repeat (first | refine iL ?_ _ | refine iM ?_ | refine iI ?_ _)); refine iY (cs := #[.int .u8 ((1 + (Int.tmod a0 7)) % 256), .int .u32 a1, .int .u32 0, .slice none 0 0, .slice none 0 0, .int .u32 0, .slice none 0 0, .int .i64 0, .int .i64 0, .slice none 0 0]) ?_ 2 _ rfl; (with_reducible repeat (first | refine iL ?_ _ | refine iM ?_ | refine iI ?_ _)); refine iY (cs := #[.int .u8 ((1 + (Int.tmod a0 7)) % 256), .int .u32 0, .int .u32 0, .slice none 0 0, .slice none 0 0, .int .u32 0, .slice none 0 0, .int .i64 0, .int .i64 0, .slice none 0 0]) ?_ 1 _ rfl; (with_reducible repeat (first | refine iL ?_ _ | refine iM ?_ | refine iI ?_ _)); refine iY (cs := #[.int .u8 0, .int .u32 0, .int .u32 0, .slice none 0 0, .slice none 0 0, .int .u32 0, .slice none 0 0, .int .i64 0, .int .i64 0, .slice none 0 0]) ?_ 0 _ rfl; (with_reducible repeat (first | refine iL ?_ _ | refine iM ?_ | refine iI ?_ _)); exact BK188.out⟩, ⟨by repeat (first | (with_reducible first | exact HB.out | apply iG | apply iF | apply iJ | refine iH ?_ GE187.out | refine iH ?_ GE188.out) | exact HB.out)⟩⟩
 case round =>
  clear H'
  try clear c1
  try clear c2
  try clear p2
  try clear c4
  try clear c5
  try clear c8
  try clear c12
  try clear hcz13_0
  try clear hcz13_1
  try clear hcz13_2
  try clear hcz13_3
  try clear hcz13_4
  try clear hcz13_5
  try clear hcz13_6
  try clear hcz13_7
  try clear hcz13_8
  try clear hcz13_9
  try clear hfz13_0
  try clear hfz13_1
  try clear hfz13_2
  try clear hfz13_3
  try clear hfz13_4
  try clear hfz13_5
  try clear hfz13_6
  try clear hfz13_7
  try clear hfz13_8
  try clear hfz13_9
  obtain ⟨x20_1, x21_1, rfl, HA, HK1, HO_20, BK187, BK188, HB⟩ := hrel
  cases gk with
  | zero => exact absurd HA.out (by simp [stratumlaw07_Make.l0])
  | succ k1 =>
   have H := HA.out
   clear HA
   simp only [stratumlaw07_Make.l0] at H
   by_cases c14 : x21_1 < 6
   ·rw [if_pos c14] at H
    have c14b0 : decide (x21_1 < 6) = true := decide_eq_true c14
    clear c14
    obtain ⟨ji15, hji15⟩ : ∃ j_ : Int, (IntKind.u64.wrap (x21_1)) = j_ := ⟨_, rfl⟩
    replace H : (if 0 ≤ (ji15) then (if (Go.bits .and .u8 (shr .u8 a3 (ji15)) 1) = 1 then (if x20_1.length < 17592186044416 then (stratumlaw07_Make.l0 k1 a2 a3 l4 l5 a6 a7 l8 (x20_1 ++ [x21_1]) (wrap64 (x21_1 + 1)) ((1 + (Int.tmod a0 7)) % 256) a1 0 0 0 0) else (none)) else (stratumlaw07_Make.l0 k1 a2 a3 l4 l5 a6 a7 l8 x20_1 (wrap64 (x21_1 + 1)) ((1 + (Int.tmod a0 7)) % 256) a1 0 0 0 0)) else (none)) = some (r1, r2, r3, r4, r5, r6, r7, r8, r9, r10) := by first | (rw [hji15] at H; exact H) | (simp only [hji15] at H ⊢; exact H)
    by_cases c16 : 0 ≤ (ji15)
    ·rw [if_pos c16] at H
     have c16b0 := eq_true c16
     have c16b1 : decide (0 ≤ (ji15)) = true := decide_eq_true c16
     clear c16
     obtain ⟨ji17, hji17⟩ : ∃ j_ : Int, (shr .u8 a3 (ji15)) = j_ := ⟨_, rfl⟩
     replace H : (if (Go.bits .and .u8 (ji17) 1) = 1 then (if x20_1.length < 17592186044416 then (stratumlaw07_Make.l0 k1 a2 a3 l4 l5 a6 a7 l8 (x20_1 ++ [x21_1]) (wrap64 (x21_1 + 1)) ((1 + (Int.tmod a0 7)) % 256) a1 0 0 0 0) else (none)) else (stratumlaw07_Make.l0 k1 a2 a3 l4 l5 a6 a7 l8 x20_1 (wrap64 (x21_1 + 1)) ((1 + (Int.tmod a0 7)) % 256) a1 0 0 0 0)) = some (r1, r2, r3, r4, r5, r6, r7, r8, r9, r10) := by first | (rw [hji17] at H; exact H) | (simp only [hji17] at H ⊢; exact H)
     have hji17_ : (a3 / 2 ^ min (ji15).toNat 8) = ji17 := hji17
     have hji17z : (ji15) ≤ 8 → (a3 / 2 ^ (ji15).toNat) = ji17 := MI hji17
     by_cases c18 : (Go.bits .and .u8 (ji17) 1) = 1
     ·rw [if_pos c18] at H
      have c18b0 : ((Go.bits .and .u8 (ji17) 1) == 1) = true := beq_iff_eq.mpr c18
      have c18b1 : ((Go.bits .and .u8 (ji17) 1) != 1) = false := bne_eq_false_iff_eq.mpr c18
      clear c18
      by_cases c19 : x20_1.length < 17592186044416
      ·rw [if_pos c19] at H
       have LMc19 := iC.mk c19
       clear c19
       obtain ⟨y189, hy189⟩ : ∃ y_ : List Int, y_ = (x20_1 ++ [x21_1]) := ⟨_, rfl⟩
       replace H : (stratumlaw07_Make.l0 k1 a2 a3 l4 l5 a6 a7 l8 y189 (wrap64 (x21_1 + 1)) ((1 + (Int.tmod a0 7)) % 256) a1 0 0 0 0) = some (r1, r2, r3, r4, r5, r6, r7, r8, r9, r10) := by first | (rw [hy189]; with_reducible exact H) | (have H2_ := (Option.bind_some _ _).symm.trans H; rw [hy189]; with_reducible exact H2_) | (have H2_ := (Option.bind_some _ _).symm.trans H; with_reducible exact H2_) | with_reducible exact H | (rw [hy189]; exact H) | exact H
       have Ny189 := iC.mk hy189
       clear hy189
       have H' := iC.mk H
       clear H
       go_wp2_with (first | ((with_reducible refine oU (b := .append) (xs := #[.tmp 40, .tmp 42]) rfl ?_); at_builtin; refine Kd.R_append (Kd.int .i64) (w0 := w) w.heap.size rfl (.tmp 40) (.tmp 42) 23 3 (.int .i64 0) 8 rfl Tryd.underlying23 info3 rfl (by decide) (by omega) u20 x20_1 x21_1 [.int .i64 x21_1] (fun _ => True) (fun _ => False) rfl rfl ?aP (fun _ hk => hk.elim) ?aF ?aO ?aB ?aS ?aL ?_; (case aP => exact rfl); (case aB => exact (by repeat (first | (with_reducible first | exact HB.out | apply iG | apply iF | apply iJ | refine iH ?_ GE187.out | refine iH ?_ GE188.out) | exact HB.out))); (case aF => exact (fun _ _ => trivial)); (case aO => exact (by (with_reducible repeat (first | apply Kd.R_alloc | apply Kd.R_drewN | apply Kd.R_drew)); exact HO_20.out)); (case aS => exact (iQ (by repeat (first | (with_reducible first | exact HB.out | apply iG | apply iF | apply iJ | refine iH ?_ GE187.out | refine iH ?_ GE188.out) | exact HB.out)))); (case aL => have := LMc19.out; omega); intro v190 w20 ho hb hg hat; rw [← Ny189.out] at ho; have n0_ := iC.mk (nD (g := gb187) (o := .cells #[.int .u8 0, .int .u32 0, .int .u32 0, .slice none 0 0, .slice none 0 0, .int .u32 0, .slice none 0 0, .int .i64 0, .int .i64 0, .slice none 0 0] 30 (0, 0)) (bk_ BK187.out) hg (Kd.R_ne HO_20.out BK187.out (by decide))); have n1_ := iC.mk (nD (g := gb188) (o := .cells #[.int .u8 ((1 + (Int.tmod a0 7)) % 256), .int .u32 a1, .int .u32 0, .slice none 0 0, .slice none 0 0, .int .u32 0, .slice none 0 0, .int .i64 0, .int .i64 0, .slice none 0 0] 30 (0, 0)) (bk_ BK188.out) hg (Kd.R_ne HO_20.out BK188.out (by decide))); have n2_ := iC.mk (hb); have n3_ := iC.mk (ho); clear BK187; clear BK188; clear HB; clear HO_20; have BK187 := n0_; have BK188 := n1_; have HB := n2_; have HO191 := n3_; clear n0_ n1_ n2_ n3_; clear ho hb hg hat))
       go_roundg k1
       case measure => have := HK1.out; omega
       case rel => exact ⟨(y189), (wrap64 (x21_1 + 1)), (by first | rfl | (simp; done) | (simp [*]; done)), H', ⟨by have := HK1.out; omega⟩, ⟨by (with_reducible repeat (first | apply Kd.R_alloc | apply Kd.R_drewN | apply Kd.R_drew)); exact HO191.out⟩, ⟨bk_ BK187.out⟩, ⟨bk_ BK188.out⟩, ⟨by repeat (first | (with_reducible first | exact HB.out | apply iG | apply iF | apply iJ | refine iH ?_ GE187.out | refine iH ?_ GE188.out) | exact HB.out)⟩⟩
      ·rw [if_neg c19] at H
       exact absurd H (by simp)
     ·rw [if_neg c18] at H
      have c18b0 : ((Go.bits .and .u8 (ji17) 1) == 1) = false := beq_eq_false_iff_ne.mpr c18
      have c18b1 : ((Go.bits .and .u8 (ji17) 1) != 1) = true := bne_iff_ne.mpr c18
      have H' := iC.mk H
      clear H
      go_wp2
      go_roundg k1
      case measure => have := HK1.out; omega
      case rel => exact ⟨(x20_1), (wrap64 (x21_1 + 1)), (by first | rfl | (simp; done) | (simp [*]; done)), H', ⟨by have := HK1.out; omega⟩, ⟨by (with_reducible repeat (first | apply Kd.R_alloc | apply Kd.R_drewN | apply Kd.R_drew)); exact HO_20.out⟩, ⟨bk_ BK187.out⟩, ⟨bk_ BK188.out⟩, ⟨by repeat (first | (with_reducible first | exact HB.out | apply iG | apply iF | apply iJ | refine iH ?_ GE187.out | refine iH ?_ GE188.out) | exact HB.out)⟩⟩
    ·rw [if_neg c16] at H
     exact absurd H (by simp)
   ·rw [if_neg c14] at H
    have c14b0 : decide (x21_1 < 6) = false := decide_eq_false c14
    clear c14
    by_cases c21 : ((1 + (Int.tmod a0 7)) % 256) = 1
    ·rw [if_pos c21] at H
     have c21b0 : (((1 + (Int.tmod a0 7)) % 256) == 1) = true := beq_iff_eq.mpr c21
     have c21b1 : (((1 + (Int.tmod a0 7)) % 256) != 1) = false := bne_eq_false_iff_eq.mpr c21
     clear c21
     replace H := Option.bind_eq_some_iff.mp H
     obtain ⟨t192, A220, H⟩ := H
     replace H : (some (((1 + (Int.tmod a0 7)) % 256), a1, 0, x20_1, t192, 0, ([] : List (S98)), 0, 0, ([] : List (S86)))) = some (r1, r2, r3, r4, r5, r6, r7, r8, r9, r10) := H
     have A22 := iC.mk A220
     clear A220
     simp only [Option.some.injEq, Prod.mk.injEq] at H
     obtain ⟨rfl, rfl, rfl, rfl, rfl, rfl, rfl, rfl, rfl, rfl⟩ := H
     have hnb23 := NB188_187.out
     have hnc23 := NB187_188.out
     have hcz24_0 : wr.cell? ⟨gb188, 0, none⟩ = some (.int .u8 ((1 + (Int.tmod a0 7)) % 256)) := (iE BK188.out 0).trans rfl
     have hcz24_1 : wr.cell? ⟨gb188, 1, none⟩ = some (.int .u32 a1) := (iE BK188.out 1).trans rfl
     have hcz24_2 : wr.cell? ⟨gb188, 2, none⟩ = some (.int .u32 0) := (iE BK188.out 2).trans rfl
     have hcz24_3 : wr.cell? ⟨gb188, 3, none⟩ = some (.slice none 0 0) := (iE BK188.out 3).trans rfl
     have hcz24_4 : wr.cell? ⟨gb188, 4, none⟩ = some (.slice none 0 0) := (iE BK188.out 4).trans rfl
     have hcz24_5 : wr.cell? ⟨gb188, 5, none⟩ = some (.int .u32 0) := (iE BK188.out 5).trans rfl
     have hcz24_6 : wr.cell? ⟨gb188, 6, none⟩ = some (.slice none 0 0) := (iE BK188.out 6).trans rfl
     have hcz24_7 : wr.cell? ⟨gb188, 7, none⟩ = some (.int .i64 0) := (iE BK188.out 7).trans rfl
     have hcz24_8 : wr.cell? ⟨gb188, 8, none⟩ = some (.int .i64 0) := (iE BK188.out 8).trans rfl
     have hcz24_9 : wr.cell? ⟨gb188, 9, none⟩ = some (.slice none 0 0) := (iE BK188.out 9).trans rfl
     have hfz24_0 := iD BK188.out 0
     have hfz24_1 := iD BK188.out 1
     have hfz24_2 := iD BK188.out 2
     have hfz24_3 := iD BK188.out 3
     have hfz24_4 := iD BK188.out 4
     have hfz24_5 := iD BK188.out 5
     have hfz24_6 := iD BK188.out 6
     have hfz24_7 := iD BK188.out 7
     have hfz24_8 := iD BK188.out 8
     have hfz24_9 := iD BK188.out 9
     obtain ⟨Ao25, co25, eo25⟩ := Kd.R_slice HO_20.out
     subst eo25
     go_wp2_with (first | ((with_reducible refine oM (f := 73) rfl ?_); refine MX (some 51) rfl rfl Tryd.func73 (by kernel_rfl) rfl #[.slice A4 l4.length c4] rfl (by (try simp only [List.map_toArray, List.map_cons, List.map_nil]); first | done | rfl | (simp only [List.length_drop, List.length_take]; rfl)) ?_; (with_reducible refine (stratumlaw07_Facts.calls k1 _ _ l4 t192 _ ?side1 ?side2 A22.out).mono ?_); (case side1 => exact Kd.C_below HR4.out (by repeat (first | (with_reducible first | exact HB.out | apply iG | apply iF | apply iJ | refine iH ?_ GE187.out | refine iH ?_ GE188.out) | exact HB.out))); (case side2 => exact HC4.out); rintro e w26 ⟨v193, rfl, ho0, hb⟩; refine ⟨_, rfl, ?_⟩; have n0_ := iC.mk (Kd.R_below (by (with_reducible repeat (first | apply Kd.R_alloc | apply Kd.R_drewN | apply Kd.R_drew)); exact (Kd.R_mono (Kd.R_far (p := ⟨gb188, 3, none⟩) (Kd.R_types HO_20.out BK188.out (by decide)) (fun _ hk => hk.2) (.slice Ao25 x20_1.length co25)) (fun _ h_ => h_.1))) hb); have n1_ := iC.mk (Kd.R_lower (Kd.R_new' ho0 (Kd.R_lt (by (with_reducible repeat (first | apply Kd.R_alloc | apply Kd.R_drewN | apply Kd.R_drew)); exact (Kd.R_mono (Kd.R_far (p := ⟨gb188, 3, none⟩) (Kd.R_types HO_20.out BK188.out (by decide)) (fun _ hk => hk.2) (.slice Ao25 x20_1.length co25)) (fun _ h_ => h_.1))))) (iQ (by repeat (first | (with_reducible first | exact HB.out | apply iG | apply iF | apply iJ | refine iH ?_ GE187.out | refine iH ?_ GE188.out) | exact HB.out)))); have n2_ := iC.mk (jS (g := gb187) (o := .cells #[.int .u8 0, .int .u32 0, .int .u32 0, .slice none 0 0, .slice none 0 0, .int .u32 0, .slice none 0 0, .int .i64 0, .int .i64 0, .slice none 0 0] 30 (0, 0)) (by (with_reducible repeat (first | refine iL ?_ _ | refine iM ?_ | refine iI ?_ _)); refine jZ ?_ NB187_188.out _; (with_reducible repeat (first | refine iL ?_ _ | refine iM ?_ | refine iI ?_ _)); exact BK187.out) hb); have n3_ := iC.mk (jS (g := gb188) (o := .cells #[.int .u8 ((1 + (Int.tmod a0 7)) % 256), .int .u32 a1, .int .u32 0, .slice Ao25 x20_1.length co25, .slice none 0 0, .int .u32 0, .slice none 0 0, .int .i64 0, .int .i64 0, .slice none 0 0] 30 (0, 0)) (by (with_reducible repeat (first | refine iL ?_ _ | refine iM ?_ | refine iI ?_ _)); refine iY (cs := #[.int .u8 ((1 + (Int.tmod a0 7)) % 256), .int .u32 a1, .int .u32 0, .slice none 0 0, .slice none 0 0, .int .u32 0, .slice none 0 0, .int .i64 0, .int .i64 0, .slice none 0 0]) ?_ 3 _ rfl; (with_reducible repeat (first | refine iL ?_ _ | refine iM ?_ | refine iI ?_ _)); exact BK188.out) hb); have n4_ := iC.mk (iK (by repeat (first | (with_reducible first | exact HB.out | apply iG | apply iF | apply iJ | refine iH ?_ GE187.out | refine iH ?_ GE188.out) | exact HB.out)) hb); clear HO_20; clear BK187; clear BK188; clear HB; have HO_20 := n0_; have HO194 := n1_; have BK187 := n2_; have BK188 := n3_; have HB := n4_; clear n0_ n1_ n2_ n3_ n4_; (try clear hb); (try clear hb2); (try clear hk); (try clear hi); (try clear ho0); obtain ⟨Ao27, co27, eo27⟩ := Kd.R_slice HO194.out; subst eo27; have hcz28_0 : w26.cell? ⟨gb188, 0, none⟩ = some (.int .u8 ((1 + (Int.tmod a0 7)) % 256)) := (iE BK188.out 0).trans rfl; have hcz28_1 : w26.cell? ⟨gb188, 1, none⟩ = some (.int .u32 a1) := (iE BK188.out 1).trans rfl; have hcz28_2 : w26.cell? ⟨gb188, 2, none⟩ = some (.int .u32 0) := (iE BK188.out 2).trans rfl; have hcz28_3 : w26.cell? ⟨gb188, 3, none⟩ = some (.slice Ao25 x20_1.length co25) := (iE BK188.out 3).trans rfl; have hcz28_4 : w26.cell? ⟨gb188, 4, none⟩ = some (.slice none 0 0) := (iE BK188.out 4).trans rfl; have hcz28_5 : w26.cell? ⟨gb188, 5, none⟩ = some (.int .u32 0) := (iE BK188.out 5).trans rfl; have hcz28_6 : w26.cell? ⟨gb188, 6, none⟩ = some (.slice none 0 0) := (iE BK188.out 6).trans rfl; have hcz28_7 : w26.cell? ⟨gb188, 7, none⟩ = some (.int .i64 0) := (iE BK188.out 7).trans rfl; have hcz28_8 : w26.cell? ⟨gb188, 8, none⟩ = some (.int .i64 0) := (iE BK188.out 8).trans rfl; have hcz28_9 : w26.cell? ⟨gb188, 9, none⟩ = some (.slice none 0 0) := (iE BK188.out 9).trans rfl; have hfz28_0 := iD BK188.out 0; have hfz28_1 := iD BK188.out 1; have hfz28_2 := iD BK188.out 2; have hfz28_3 := iD BK188.out 3; have hfz28_4 := iD BK188.out 4; have hfz28_5 := iD BK188.out 5; have hfz28_6 := iD BK188.out 6; have hfz28_7 := iD BK188.out 7; have hfz28_8 := iD BK188.out 8; have hfz28_9 := iD BK188.out 9; have hcz29_0 : w26.cell? ⟨gb187, 0, none⟩ = some (.int .u8 0) := (iE BK187.out 0).trans rfl; have hcz29_1 : w26.cell? ⟨gb187, 1, none⟩ = some (.int .u32 0) := (iE BK187.out 1).trans rfl; have hcz29_2 : w26.cell? ⟨gb187, 2, none⟩ = some (.int .u32 0) := (iE BK187.out 2).trans rfl; have hcz29_3 : w26.cell? ⟨gb187, 3, none⟩ = some (.slice none 0 0) := (iE BK187.out 3).trans rfl; have hcz29_4 : w26.cell? ⟨gb187, 4, none⟩ = some (.slice none 0 0) := (iE BK187.out 4).trans rfl; have hcz29_5 : w26.cell? ⟨gb187, 5, none⟩ = some (.int .u32 0) := (iE BK187.out 5).trans rfl; have hcz29_6 : w26.cell? ⟨gb187, 6, none⟩ = some (.slice none 0 0) := (iE BK187.out 6).trans rfl; have hcz29_7 : w26.cell? ⟨gb187, 7, none⟩ = some (.int .i64 0) := (iE BK187.out 7).trans rfl; have hcz29_8 : w26.cell? ⟨gb187, 8, none⟩ = some (.int .i64 0) := (iE BK187.out 8).trans rfl; have hcz29_9 : w26.cell? ⟨gb187, 9, none⟩ = some (.slice none 0 0) := (iE BK187.out 9).trans rfl; have hfz29_0 := iD BK187.out 0; have hfz29_1 := iD BK187.out 1; have hfz29_2 := iD BK187.out 2; have hfz29_3 := iD BK187.out 3; have hfz29_4 := iD BK187.out 4; have hfz29_5 := iD BK187.out 5; have hfz29_6 := iD BK187.out 6; have hfz29_7 := iD BK187.out 7; have hfz29_8 := iD BK187.out 8; have hfz29_9 := iD BK187.out 9))
     refine bodyPost_ret (results_cell_row rfl _ _ gb187 30 #[.int .u8 ((1 + (Int.tmod a0 7)) % 256), .int .u32 a1, .int .u32 0, .slice Ao25 x20_1.length co25, .slice Ao27 t192.length co27, .int .u32 0, .slice none 0 0, .int .i64 0, .int .i64 0, .slice none 0 0] (0, 0) _ rfl (by (with_reducible repeat (first | refine iL ?_ _ | refine iM ?_ | refine iI ?_ _)); refine iY (cs := #[.int .u8 ((1 + (Int.tmod a0 7)) % 256), .int .u32 a1, .int .u32 0, .slice Ao25 x20_1.length co25, .slice Ao27 t192.length co27, .int .u32 0, .slice none 0 0, .int .i64 0, .int .i64 0, .slice none 0 0]) ?_ 9 _ rfl; (with_reducible repeat (first | refine iL ?_ _ | refine iM ?_ | refine iI ?_ _)); refine iY (cs := #[.int .u8 ((1 + (Int.tmod a0 7)) % 256), .int .u32 a1, .int .u32 0, .slice Ao25 x20_1.length co25, .slice Ao27 t192.length co27, .int .u32 0, .slice none 0 0, .int .i64 0, .int .i64 0, .slice none 0 0]) ?_ 8 _ rfl; (with_reducible repeat (first | refine iL ?_ _ | refine iM ?_ | refine iI ?_ _)); refine iY (cs := #[.int .u8 ((1 + (Int.tmod a0 7)) % 256), .int .u32 a1, .int .u32 0, .slice Ao25 x20_1.length co25, .slice Ao27 t192.length co27, .int .u32 0, .slice none 0 0, .int .i64 0, .int .i64 0, .slice none 0 0]) ?_ 7 _ rfl; (with_reducible repeat (first | refine iL ?_ _ | refine iM ?_ | refine iI ?_ _)); refine iY (cs := #[.int .u8 ((1 + (Int.tmod a0 7)) % 256), .int .u32 a1, .int .u32 0, .slice Ao25 x20_1.length co25, .slice Ao27 t192.length co27, .int .u32 0, .slice none 0 0, .int .i64 0, .int .i64 0, .slice none 0 0]) ?_ 6 _ rfl; (with_reducible repeat (first | refine iL ?_ _ | refine iM ?_ | refine iI ?_ _)); refine iY (cs := #[.int .u8 ((1 + (Int.tmod a0 7)) % 256), .int .u32 a1, .int .u32 0, .slice Ao25 x20_1.length co25, .slice Ao27 t192.length co27, .int .u32 0, .slice none 0 0, .int .i64 0, .int .i64 0, .slice none 0 0]) ?_ 5 _ rfl; (with_reducible repeat (first | refine iL ?_ _ | refine iM ?_ | refine iI ?_ _)); refine iY (cs := #[.int .u8 ((1 + (Int.tmod a0 7)) % 256), .int .u32 a1, .int .u32 0, .slice Ao25 x20_1.length co25, .slice none 0 0, .int .u32 0, .slice none 0 0, .int .i64 0, .int .i64 0, .slice none 0 0]) ?_ 4 _ rfl; (with_reducible repeat (first | refine iL ?_ _ | refine iM ?_ | refine iI ?_ _)); refine iY (cs := #[.int .u8 ((1 + (Int.tmod a0 7)) % 256), .int .u32 a1, .int .u32 0, .slice none 0 0, .slice none 0 0, .int .u32 0, .slice none 0 0, .int .i64 0, .int .i64 0, .slice none 0 0]) ?_ 3 _ rfl; (with_reducible repeat (first | refine iL ?_ _ | refine iM ?_ | refine iI ?_ _)); refine iY (cs := #[.int .u8 ((1 + (Int.tmod a0 7)) % 256), .int .u32 a1, .int .u32 0, .slice none 0 0, .slice none 0 0, .int .u32 0, .slice none 0 0, .int .i64 0, .int .i64 0, .slice none 0 0]) ?_ 2 _ rfl; (with_reducible repeat (first | refine iL ?_ _ | refine iM ?_ | refine iI ?_ _)); refine iY (cs := #[.int .u8 ((1 + (Int.tmod a0 7)) % 256), .int .u32 0, .int .u32 0, .slice none 0 0, .slice none 0 0, .int .u32 0, .slice none 0 0, .int .i64 0, .int .i64 0, .slice none 0 0]) ?_ 1 _ rfl; (with_reducible repeat (first | refine iL ?_ _ | refine iM ?_ | refine iI ?_ _)); refine iY (cs := #[.int .u8 0, .int .u32 0, .int .u32 0, .slice none 0 0, .slice none 0 0, .int .u32 0, .slice none 0 0, .int .i64 0, .int .i64 0, .slice none 0 0]) ?_ 0 _ rfl; (with_reducible repeat (first | refine iL ?_ _ | refine iM ?_ | refine iI ?_ _)); refine jZ ?_ NB187_188.out _; (with_reducible repeat (first | refine iL ?_ _ | refine iM ?_ | refine iI ?_ _)); exact BK187.out) Tryd.underlying30 rfl (by kernel_rfl)) rfl ?_
     exact ⟨_, _, _, _, by first | rfl | (simp [iW, iV] <;> rfl) | (simp [*, iW, iV] <;> rfl), by (with_reducible repeat (first | apply Kd.R_alloc | apply Kd.R_drewN | apply Kd.R_drew)); exact Kd.R_mono (Kd.R_far (p := ⟨gb187, 9, none⟩) (Kd.R_far (p := ⟨gb187, 8, none⟩) (Kd.R_far (p := ⟨gb187, 7, none⟩) (Kd.R_far (p := ⟨gb187, 6, none⟩) (Kd.R_far (p := ⟨gb187, 5, none⟩) (Kd.R_far (p := ⟨gb187, 4, none⟩) (Kd.R_far (p := ⟨gb187, 3, none⟩) (Kd.R_far (p := ⟨gb187, 2, none⟩) (Kd.R_far (p := ⟨gb187, 1, none⟩) (Kd.R_far (p := ⟨gb187, 0, none⟩) (Kd.R_far (p := ⟨gb188, 4, none⟩) (Kd.R_types (Kd.R_types HO_20.out BK188.out (by decide)) BK187.out (by decide)) (fun _ hk => hk.1.2) (.slice Ao27 t192.length co27)) (fun _ hk => hk.2) (.int .u8 ((1 + (Int.tmod a0 7)) % 256))) (fun _ hk => hk.2) (.int .u32 a1)) (fun _ hk => hk.2) (.int .u32 0)) (fun _ hk => hk.2) (.slice Ao25 x20_1.length co25)) (fun _ hk => hk.2) (.slice Ao27 t192.length co27)) (fun _ hk => hk.2) (.int .u32 0)) (fun _ hk => hk.2) (.slice none 0 0)) (fun _ hk => hk.2) (.int .i64 0)) (fun _ hk => hk.2) (.int .i64 0)) (fun _ hk => hk.2) (.slice none 0 0)) (fun _ hk => trivial), by (with_reducible repeat (first | apply Kd.R_alloc | apply Kd.R_drewN | apply Kd.R_drew)); exact Kd.R_mono (Kd.R_far (p := ⟨gb187, 9, none⟩) (Kd.R_far (p := ⟨gb187, 8, none⟩) (Kd.R_far (p := ⟨gb187, 7, none⟩) (Kd.R_far (p := ⟨gb187, 6, none⟩) (Kd.R_far (p := ⟨gb187, 5, none⟩) (Kd.R_far (p := ⟨gb187, 4, none⟩) (Kd.R_far (p := ⟨gb187, 3, none⟩) (Kd.R_far (p := ⟨gb187, 2, none⟩) (Kd.R_far (p := ⟨gb187, 1, none⟩) (Kd.R_far (p := ⟨gb187, 0, none⟩) (Kd.R_far (p := ⟨gb188, 4, none⟩) (Kd.R_types (Kd.R_types HO194.out BK188.out (by decide)) BK187.out (by decide)) (fun _ hk => hk.1.2) (.slice Ao27 t192.length co27)) (fun _ hk => hk.2) (.int .u8 ((1 + (Int.tmod a0 7)) % 256))) (fun _ hk => hk.2) (.int .u32 a1)) (fun _ hk => hk.2) (.int .u32 0)) (fun _ hk => hk.2) (.slice Ao25 x20_1.length co25)) (fun _ hk => hk.2) (.slice Ao27 t192.length co27)) (fun _ hk => hk.2) (.int .u32 0)) (fun _ hk => hk.2) (.slice none 0 0)) (fun _ hk => hk.2) (.int .i64 0)) (fun _ hk => hk.2) (.int .i64 0)) (fun _ hk => hk.2) (.slice none 0 0)) (fun _ hk => hk.1.1.2), by first | exact Kd.R_nil _ _ _ _ _ | exact Kd.N_nil _ _ _ _ _ | exact Kd.V_nil _ _ _ _ _ | exact Kd.Q_nil _ _ _ _ _ | exact Kd.S_nil _ _ _ _ _, by first | exact Kd.R_nil _ _ _ _ _ | exact Kd.N_nil _ _ _ _ _ | exact Kd.V_nil _ _ _ _ _ | exact Kd.Q_nil _ _ _ _ _ | exact Kd.S_nil _ _ _ _ _, by repeat (first | (with_reducible first | exact HB.out | apply iG | apply iF | apply iJ | refine iH ?_ GE187.out | refine iH ?_ GE188.out) | exact HB.out)⟩
    ·rw [if_neg c21] at H
     have c21b0 : (((1 + (Int.tmod a0 7)) % 256) == 1) = false := beq_eq_false_iff_ne.mpr c21
     have c21b1 : (((1 + (Int.tmod a0 7)) % 256) != 1) = true := bne_iff_ne.mpr c21
     by_cases c30 : ((1 + (Int.tmod a0 7)) % 256) = 2
     ·rw [if_pos c30] at H
      have c30b0 : (((1 + (Int.tmod a0 7)) % 256) == 2) = true := beq_iff_eq.mpr c30
      have c30b1 : (((1 + (Int.tmod a0 7)) % 256) != 2) = false := bne_eq_false_iff_eq.mpr c30
      clear c30
      simp only [Option.some.injEq, Prod.mk.injEq] at H
      obtain ⟨rfl, rfl, rfl, rfl, rfl, rfl, rfl, rfl, rfl, rfl⟩ := H
      have hnb31 := NB188_187.out
      have hnc31 := NB187_188.out
      have hcz32_0 : wr.cell? ⟨gb188, 0, none⟩ = some (.int .u8 ((1 + (Int.tmod a0 7)) % 256)) := (iE BK188.out 0).trans rfl
      have hcz32_1 : wr.cell? ⟨gb188, 1, none⟩ = some (.int .u32 a1) := (iE BK188.out 1).trans rfl
      have hcz32_2 : wr.cell? ⟨gb188, 2, none⟩ = some (.int .u32 0) := (iE BK188.out 2).trans rfl
      have hcz32_3 : wr.cell? ⟨gb188, 3, none⟩ = some (.slice none 0 0) := (iE BK188.out 3).trans rfl
      have hcz32_4 : wr.cell? ⟨gb188, 4, none⟩ = some (.slice none 0 0) := (iE BK188.out 4).trans rfl
      have hcz32_5 : wr.cell? ⟨gb188, 5, none⟩ = some (.int .u32 0) := (iE BK188.out 5).trans rfl
      have hcz32_6 : wr.cell? ⟨gb188, 6, none⟩ = some (.slice none 0 0) := (iE BK188.out 6).trans rfl
      have hcz32_7 : wr.cell? ⟨gb188, 7, none⟩ = some (.int .i64 0) := (iE BK188.out 7).trans rfl
      have hcz32_8 : wr.cell? ⟨gb188, 8, none⟩ = some (.int .i64 0) := (iE BK188.out 8).trans rfl
      have hcz32_9 : wr.cell? ⟨gb188, 9, none⟩ = some (.slice none 0 0) := (iE BK188.out 9).trans rfl
      have hfz32_0 := iD BK188.out 0
      have hfz32_1 := iD BK188.out 1
      have hfz32_2 := iD BK188.out 2
      have hfz32_3 := iD BK188.out 3
      have hfz32_4 := iD BK188.out 4
      have hfz32_5 := iD BK188.out 5
      have hfz32_6 := iD BK188.out 6
      have hfz32_7 := iD BK188.out 7
      have hfz32_8 := iD BK188.out 8
      have hfz32_9 := iD BK188.out 9
      obtain ⟨Ao33, co33, eo33⟩ := Kd.R_slice HO_20.out
      subst eo33
      have hcz34_0 : wr.cell? ⟨gb187, 0, none⟩ = some (.int .u8 0) := (iE BK187.out 0).trans rfl
      have hcz34_1 : wr.cell? ⟨gb187, 1, none⟩ = some (.int .u32 0) := (iE BK187.out 1).trans rfl
      have hcz34_2 : wr.cell? ⟨gb187, 2, none⟩ = some (.int .u32 0) := (iE BK187.out 2).trans rfl
      have hcz34_3 : wr.cell? ⟨gb187, 3, none⟩ = some (.slice none 0 0) := (iE BK187.out 3).trans rfl
      have hcz34_4 : wr.cell? ⟨gb187, 4, none⟩ = some (.slice none 0 0) := (iE BK187.out 4).trans rfl
      have hcz34_5 : wr.cell? ⟨gb187, 5, none⟩ = some (.int .u32 0) := (iE BK187.out 5).trans rfl
      have hcz34_6 : wr.cell? ⟨gb187, 6, none⟩ = some (.slice none 0 0) := (iE BK187.out 6).trans rfl
      have hcz34_7 : wr.cell? ⟨gb187, 7, none⟩ = some (.int .i64 0) := (iE BK187.out 7).trans rfl
      have hcz34_8 : wr.cell? ⟨gb187, 8, none⟩ = some (.int .i64 0) := (iE BK187.out 8).trans rfl
      have hcz34_9 : wr.cell? ⟨gb187, 9, none⟩ = some (.slice none 0 0) := (iE BK187.out 9).trans rfl
      have hfz34_0 := iD BK187.out 0
      have hfz34_1 := iD BK187.out 1
      have hfz34_2 := iD BK187.out 2
      have hfz34_3 := iD BK187.out 3
      have hfz34_4 := iD BK187.out 4
      have hfz34_5 := iD BK187.out 5
      have hfz34_6 := iD BK187.out 6
      have hfz34_7 := iD BK187.out 7
      have hfz34_8 := iD BK187.out 8
      have hfz34_9 := iD BK187.out 9
      go_wp2
      refine bodyPost_ret (results_cell_row rfl _ _ gb187 30 #[.int .u8 ((1 + (Int.tmod a0 7)) % 256), .int .u32 a1, .int .u32 a2, .slice Ao33 x20_1.length co33, .slice none 0 0, .int .u32 0, .slice none 0 0, .int .i64 0, .int .i64 0, .slice none 0 0] (0, 0) _ rfl (by (with_reducible repeat (first | refine iL ?_ _ | refine iM ?_ | refine iI ?_ _)); refine iY (cs := #[.int .u8 ((1 + (Int.tmod a0 7)) % 256), .int .u32 a1, .int .u32 a2, .slice Ao33 x20_1.length co33, .slice none 0 0, .int .u32 0, .slice none 0 0, .int .i64 0, .int .i64 0, .slice none 0 0]) ?_ 9 _ rfl; (with_reducible repeat (first | refine iL ?_ _ | refine iM ?_ | refine iI ?_ _)); refine iY (cs := #[.int .u8 ((1 + (Int.tmod a0 7)) % 256), .int .u32 a1, .int .u32 a2, .slice Ao33 x20_1.length co33, .slice none 0 0, .int .u32 0, .slice none 0 0, .int .i64 0, .int .i64 0, .slice none 0 0]) ?_ 8 _ rfl; (with_reducible repeat (first | refine iL ?_ _ | refine iM ?_ | refine iI ?_ _)); refine iY (cs := #[.int .u8 ((1 + (Int.tmod a0 7)) % 256), .int .u32 a1, .int .u32 a2, .slice Ao33 x20_1.length co33, .slice none 0 0, .int .u32 0, .slice none 0 0, .int .i64 0, .int .i64 0, .slice none 0 0]) ?_ 7 _ rfl; (with_reducible repeat (first | refine iL ?_ _ | refine iM ?_ | refine iI ?_ _)); refine iY (cs := #[.int .u8 ((1 + (Int.tmod a0 7)) % 256), .int .u32 a1, .int .u32 a2, .slice Ao33 x20_1.length co33, .slice none 0 0, .int .u32 0, .slice none 0 0, .int .i64 0, .int .i64 0, .slice none 0 0]) ?_ 6 _ rfl; (with_reducible repeat (first | refine iL ?_ _ | refine iM ?_ | refine iI ?_ _)); refine iY (cs := #[.int .u8 ((1 + (Int.tmod a0 7)) % 256), .int .u32 a1, .int .u32 a2, .slice Ao33 x20_1.length co33, .slice none 0 0, .int .u32 0, .slice none 0 0, .int .i64 0, .int .i64 0, .slice none 0 0]) ?_ 5 _ rfl; (with_reducible repeat (first | refine iL ?_ _ | refine iM ?_ | refine iI ?_ _)); refine iY (cs := #[.int .u8 ((1 + (Int.tmod a0 7)) % 256), .int .u32 a1, .int .u32 a2, .slice Ao33 x20_1.length co33, .slice none 0 0, .int .u32 0, .slice none 0 0, .int .i64 0, .int .i64 0, .slice none 0 0]) ?_ 4 _ rfl; (with_reducible repeat (first | refine iL ?_ _ | refine iM ?_ | refine iI ?_ _)); refine iY (cs := #[.int .u8 ((1 + (Int.tmod a0 7)) % 256), .int .u32 a1, .int .u32 a2, .slice none 0 0, .slice none 0 0, .int .u32 0, .slice none 0 0, .int .i64 0, .int .i64 0, .slice none 0 0]) ?_ 3 _ rfl; (with_reducible repeat (first | refine iL ?_ _ | refine iM ?_ | refine iI ?_ _)); refine iY (cs := #[.int .u8 ((1 + (Int.tmod a0 7)) % 256), .int .u32 a1, .int .u32 0, .slice none 0 0, .slice none 0 0, .int .u32 0, .slice none 0 0, .int .i64 0, .int .i64 0, .slice none 0 0]) ?_ 2 _ rfl; (with_reducible repeat (first | refine iL ?_ _ | refine iM ?_ | refine iI ?_ _)); refine iY (cs := #[.int .u8 ((1 + (Int.tmod a0 7)) % 256), .int .u32 0, .int .u32 0, .slice none 0 0, .slice none 0 0, .int .u32 0, .slice none 0 0, .int .i64 0, .int .i64 0, .slice none 0 0]) ?_ 1 _ rfl; (with_reducible repeat (first | refine iL ?_ _ | refine iM ?_ | refine iI ?_ _)); refine iY (cs := #[.int .u8 0, .int .u32 0, .int .u32 0, .slice none 0 0, .slice none 0 0, .int .u32 0, .slice none 0 0, .int .i64 0, .int .i64 0, .slice none 0 0]) ?_ 0 _ rfl; (with_reducible repeat (first | refine iL ?_ _ | refine iM ?_ | refine iI ?_ _)); refine jZ ?_ NB187_188.out _; (with_reducible repeat (first | refine iL ?_ _ | refine iM ?_ | refine iI ?_ _)); refine jZ ?_ NB187_188.out _; (with_reducible repeat (first | refine iL ?_ _ | refine iM ?_ | refine iI ?_ _)); exact BK187.out) Tryd.underlying30 rfl (by kernel_rfl)) rfl ?_
      exact ⟨_, _, _, _, by first | rfl | (simp [iW, iV] <;> rfl) | (simp [*, iW, iV] <;> rfl), by (with_reducible repeat (first | apply Kd.R_alloc | apply Kd.R_drewN | apply Kd.R_drew)); exact Kd.R_mono (Kd.R_far (p := ⟨gb187, 9, none⟩) (Kd.R_far (p := ⟨gb187, 8, none⟩) (Kd.R_far (p := ⟨gb187, 7, none⟩) (Kd.R_far (p := ⟨gb187, 6, none⟩) (Kd.R_far (p := ⟨gb187, 5, none⟩) (Kd.R_far (p := ⟨gb187, 4, none⟩) (Kd.R_far (p := ⟨gb187, 3, none⟩) (Kd.R_far (p := ⟨gb187, 2, none⟩) (Kd.R_far (p := ⟨gb187, 1, none⟩) (Kd.R_far (p := ⟨gb187, 0, none⟩) (Kd.R_far (p := ⟨gb188, 3, none⟩) (Kd.R_far (p := ⟨gb188, 2, none⟩) (Kd.R_types (Kd.R_types HO_20.out BK188.out (by decide)) BK187.out (by decide)) (fun _ hk => hk.1.2) (.int .u32 a2)) (fun _ hk => hk.1.2) (.slice Ao33 x20_1.length co33)) (fun _ hk => hk.2) (.int .u8 ((1 + (Int.tmod a0 7)) % 256))) (fun _ hk => hk.2) (.int .u32 a1)) (fun _ hk => hk.2) (.int .u32 a2)) (fun _ hk => hk.2) (.slice Ao33 x20_1.length co33)) (fun _ hk => hk.2) (.slice none 0 0)) (fun _ hk => hk.2) (.int .u32 0)) (fun _ hk => hk.2) (.slice none 0 0)) (fun _ hk => hk.2) (.int .i64 0)) (fun _ hk => hk.2) (.int .i64 0)) (fun _ hk => hk.2) (.slice none 0 0)) (fun _ hk => trivial), by first | exact Kd.R_nil _ _ _ _ _ | exact Kd.N_nil _ _ _ _ _ | exact Kd.V_nil _ _ _ _ _ | exact Kd.Q_nil _ _ _ _ _ | exact Kd.S_nil _ _ _ _ _, by first | exact Kd.R_nil _ _ _ _ _ | exact Kd.N_nil _ _ _ _ _ | exact Kd.V_nil _ _ _ _ _ | exact Kd.Q_nil _ _ _ _ _ | exact Kd.S_nil _ _ _ _ _, by first | exact Kd.R_nil _ _ _ _ _ | exact Kd.N_nil _ _ _ _ _ | exact Kd.V_nil _ _ _ _ _ | exact Kd.Q_nil _ _ _ _ _ | exact Kd.S_nil _ _ _ _ _, by repeat (first | (with_reducible first | exact HB.out | apply iG | apply iF | apply iJ | refine iH ?_ GE187.out | refine iH ?_ GE188.out) | exact HB.out)⟩
     ·rw [if_neg c30] at H
      have c30b0 : (((1 + (Int.tmod a0 7)) % 256) == 2) = false := beq_eq_false_iff_ne.mpr c30
      have c30b1 : (((1 + (Int.tmod a0 7)) % 256) != 2) = true := bne_iff_ne.mpr c30
      by_cases c35 : ((1 + (Int.tmod a0 7)) % 256) = 6
      ·rw [if_pos c35] at H
       have c35b0 : (((1 + (Int.tmod a0 7)) % 256) == 6) = true := beq_iff_eq.mpr c35
       have c35b1 : (((1 + (Int.tmod a0 7)) % 256) != 6) = false := bne_eq_false_iff_eq.mpr c35
       clear c35
       have H' := iC.mk H
       clear H
       have hnb36 := NB188_187.out
       have hnc36 := NB187_188.out
       have hcz37_0 : wr.cell? ⟨gb188, 0, none⟩ = some (.int .u8 ((1 + (Int.tmod a0 7)) % 256)) := (iE BK188.out 0).trans rfl
       have hcz37_1 : wr.cell? ⟨gb188, 1, none⟩ = some (.int .u32 a1) := (iE BK188.out 1).trans rfl
       have hcz37_2 : wr.cell? ⟨gb188, 2, none⟩ = some (.int .u32 0) := (iE BK188.out 2).trans rfl
       have hcz37_3 : wr.cell? ⟨gb188, 3, none⟩ = some (.slice none 0 0) := (iE BK188.out 3).trans rfl
       have hcz37_4 : wr.cell? ⟨gb188, 4, none⟩ = some (.slice none 0 0) := (iE BK188.out 4).trans rfl
       have hcz37_5 : wr.cell? ⟨gb188, 5, none⟩ = some (.int .u32 0) := (iE BK188.out 5).trans rfl
       have hcz37_6 : wr.cell? ⟨gb188, 6, none⟩ = some (.slice none 0 0) := (iE BK188.out 6).trans rfl
       have hcz37_7 : wr.cell? ⟨gb188, 7, none⟩ = some (.int .i64 0) := (iE BK188.out 7).trans rfl
       have hcz37_8 : wr.cell? ⟨gb188, 8, none⟩ = some (.int .i64 0) := (iE BK188.out 8).trans rfl
       have hcz37_9 : wr.cell? ⟨gb188, 9, none⟩ = some (.slice none 0 0) := (iE BK188.out 9).trans rfl
       have hfz37_0 := iD BK188.out 0
       have hfz37_1 := iD BK188.out 1
       have hfz37_2 := iD BK188.out 2
       have hfz37_3 := iD BK188.out 3
       have hfz37_4 := iD BK188.out 4
       have hfz37_5 := iD BK188.out 5
       have hfz37_6 := iD BK188.out 6
       have hfz37_7 := iD BK188.out 7
       have hfz37_8 := iD BK188.out 8
       have hfz37_9 := iD BK188.out 9
       go_wp2
       go_loopg [22] k1 (fun kq v22 w' => ∃ (x22_2 : Int) (x189006_2 : List (S98)) (u189006 : Value), v22 = .int .i64 x22_2 ∧ iC (stratumlaw07_Make.l1 kq l5 x22_2 ((1 + (Int.tmod a0 7)) % 256) 0 0 a2 x189006_2 0 0 = some (r1, r2, r3, r4, r5, r6, r7, r8, r9, r10)) ∧ iC (kq ≤ k1) ∧ iC (Kd.R k98 98 w' w.heap.size (fun _ => True) u189006 x189006_2) ∧ iC (w'.heap[gb187]? = some (.cells #[.int .u8 0, .int .u32 0, .int .u32 0, (.slice none 0 0), (.slice none 0 0), .int .u32 0, (.slice none 0 0), .int .i64 0, .int .i64 0, (.slice none 0 0)] 30 (0, 0))) ∧ iC (w'.heap[gb188]? = some (.cells #[.int .u8 ((1 + (Int.tmod a0 7)) % 256), .int .u32 0, .int .u32 0, (.slice none 0 0), (.slice none 0 0), .int .u32 a2, u189006, .int .i64 0, .int .i64 0, (.slice none 0 0)] 30 (0, 0))) ∧ iC (Below w.heap.size w w'))
       case atStart => exact ⟨(0), (([] : List (S98))), (.slice none 0 0), (by first | rfl | (simp; done) | (simp [*]; done)), H', ⟨Nat.le_refl _⟩, ⟨by first | exact Kd.R_nil _ _ _ _ _ | exact Kd.N_nil _ _ _ _ _ | exact Kd.V_nil _ _ _ _ _ | exact Kd.Q_nil _ _ _ _ _ | exact Kd.S_nil _ _ _ _ _⟩, ⟨by (with_reducible repeat (first | refine iL ?_ _ | refine iM ?_ | refine iI ?_ _)); refine jZ ?_ NB187_188.out _; (with_reducible repeat (first | refine iL ?_ _ | refine iM ?_ | refine iI ?_ _)); refine jZ ?_ NB187_188.out _; (with_reducible repeat (first | refine iL ?_ _ | refine iM ?_ | refine iI ?_ _)); exact BK187.out⟩, ⟨by (with_reducible repeat (first | refine iL ?_ _ | refine iM ?_ | refine iI ?_ _)); refine iY (cs := #[.int .u8 ((1 + (Int.tmod a0 7)) % 256), .int .u32 0, .int .u32 0, .slice none 0 0, .slice none 0 0, .int .u32 0, .slice none 0 0, .int .i64 0, .int .i64 0, .slice none 0 0]) ?_ 5 _ rfl; (with_reducible repeat (first | refine iL ?_ _ | refine iM ?_ | refine iI ?_ _)); refine iY (cs := #[.int .u8 ((1 + (Int.tmod a0 7)) % 256), .int .u32 a1, .int .u32 0, .slice none 0 0, .slice none 0 0, .int .u32 0, .slice none 0 0, .int .i64 0, .int .i64 0, .slice none 0 0]) ?_ 1 _ rfl; (with_reducible repeat (first | refine iL ?_ _ | refine iM ?_ | refine iI ?_ _)); exact BK188.out⟩, ⟨by repeat (first | (with_reducible first | exact HB.out | apply iG | apply iF | apply iJ | refine iH ?_ GE187.out | refine iH ?_ GE188.out) | exact HB.out)⟩⟩
       case round =>
        clear H'
        try clear c1
        try clear c2
        try clear p2
        try clear c3
        try clear c4
        try clear c5
        try clear p6
        try clear c7
        try clear c8
        try clear c12
        try clear c14
        try clear c14b0
        try clear c16
        try clear c16b0
        try clear c16b1
        try clear c18
        try clear c18b0
        try clear c18b1
        try clear c19
        try clear c21
        try clear c21b0
        try clear c21b1
        try clear c23
        try clear c30
        try clear c30b0
        try clear c30b1
        try clear c31
        try clear c35
        try clear c35b0
        try clear c35b1
        try clear c36
        try clear hcz13_0
        try clear hcz13_1
        try clear hcz13_2
        try clear hcz13_3
        try clear hcz13_4
        try clear hcz13_5
        try clear hcz13_6
        try clear hcz13_7
        try clear hcz13_8
        try clear hcz13_9
        try clear hcz24_0
        try clear hcz24_1
        try clear hcz24_2
        try clear hcz24_3
        try clear hcz24_4
        try clear hcz24_5
        try clear hcz24_6
        try clear hcz24_7
        try clear hcz24_8
        try clear hcz24_9
        try clear hcz28_0
        try clear hcz28_1
        try clear hcz28_2
        try clear hcz28_3
        try clear hcz28_4
        try clear hcz28_5
        try clear hcz28_6
        try clear hcz28_7
        try clear hcz28_8
        try clear hcz28_9
        try clear hcz29_0
        try clear hcz29_1
        try clear hcz29_2
        try clear hcz29_3
        try clear hcz29_4
        try clear hcz29_5
        try clear hcz29_6
        try clear hcz29_7
        try clear hcz29_8
        try clear hcz29_9
        try clear hcz32_0
        try clear hcz32_1
        try clear hcz32_2
        try clear hcz32_3
        try clear hcz32_4
        try clear hcz32_5
        try clear hcz32_6
        try clear hcz32_7
        try clear hcz32_8
        try clear hcz32_9
        try clear hcz34_0
        try clear hcz34_1
        try clear hcz34_2
        try clear hcz34_3
        try clear hcz34_4
        try clear hcz34_5
        try clear hcz34_6
        try clear hcz34_7
        try clear hcz34_8
        try clear hcz34_9
        try clear hcz37_0
        try clear hcz37_1
        try clear hcz37_2
        try clear hcz37_3
        try clear hcz37_4
        try clear hcz37_5
        try clear hcz37_6
        try clear hcz37_7
        try clear hcz37_8
        try clear hcz37_9
        try clear hfz13_0
        try clear hfz13_1
        try clear hfz13_2
        try clear hfz13_3
        try clear hfz13_4
        try clear hfz13_5
        try clear hfz13_6
        try clear hfz13_7
        try clear hfz13_8
        try clear hfz13_9
        try clear hfz24_0
        try clear hfz24_1
        try clear hfz24_2
        try clear hfz24_3
        try clear hfz24_4
        try clear hfz24_5
        try clear hfz24_6
        try clear hfz24_7
        try clear hfz24_8
        try clear hfz24_9
        try clear hfz28_0
        try clear hfz28_1
        try clear hfz28_2
        try clear hfz28_3
        try clear hfz28_4
        try clear hfz28_5
        try clear hfz28_6
        try clear hfz28_7
        try clear hfz28_8
        try clear hfz28_9
        try clear hfz29_0
        try clear hfz29_1
        try clear hfz29_2
        try clear hfz29_3
        try clear hfz29_4
        try clear hfz29_5
        try clear hfz29_6
        try clear hfz29_7
        try clear hfz29_8
        try clear hfz29_9
        try clear hfz32_0
        try clear hfz32_1
        try clear hfz32_2
        try clear hfz32_3
        try clear hfz32_4
        try clear hfz32_5
        try clear hfz32_6
        try clear hfz32_7
        try clear hfz32_8
        try clear hfz32_9
        try clear hfz34_0
        try clear hfz34_1
        try clear hfz34_2
        try clear hfz34_3
        try clear hfz34_4
        try clear hfz34_5
        try clear hfz34_6
        try clear hfz34_7
        try clear hfz34_8
        try clear hfz34_9
        try clear hfz37_0
        try clear hfz37_1
        try clear hfz37_2
        try clear hfz37_3
        try clear hfz37_4
        try clear hfz37_5
        try clear hfz37_6
        try clear hfz37_7
        try clear hfz37_8
        try clear hfz37_9
        try clear p2
        obtain ⟨x22_2, x189006_2, u189006, rfl, HA, HK2, HO_189006, BK187, BK188, HB⟩ := hrel
        cases gk with
        | zero => exact absurd HA.out (by simp [stratumlaw07_Make.l1])
        | succ k2 =>
         have H := HA.out
         clear HA
         simp only [stratumlaw07_Make.l1] at H
         by_cases c38 : x22_2 < (l5.length : Int)
         ·rw [if_pos c38] at H
          have c38b0 : decide (x22_2 < (l5.length : Int)) = true := decide_eq_true c38
          clear c38
          by_cases c39 : x22_2 < 40
          ·rw [if_pos c39] at H
           have c39b0 : decide (x22_2 < 40) = true := decide_eq_true c39
           clear c39
           by_cases c40 : 0 ≤ x22_2
           ·rw [if_pos c40] at H
            have c40b0 : decide (0 ≤ x22_2) = true := decide_eq_true c40
            clear c40
            by_cases c41 : x189006_2.length < 8796093022208
            ·rw [if_pos c41] at H
             have LMc41 := iC.mk c41
             clear c41
             obtain ⟨y197, hy197⟩ : ∃ y_ : List (S98), y_ = (x189006_2 ++ [(⟨Int.tmod (wrap64 (rd l5 x22_2)) 10000, Int.tmod (wrap64 (rd l5 x22_2)) 6⟩ : S98)]) := ⟨_, rfl⟩
             replace H : (stratumlaw07_Make.l1 k2 l5 (wrap64 (x22_2 + 1)) ((1 + (Int.tmod a0 7)) % 256) 0 0 a2 y197 0 0) = some (r1, r2, r3, r4, r5, r6, r7, r8, r9, r10) := by first | (rw [hy197]; with_reducible exact H) | (have H2_ := (Option.bind_some _ _).symm.trans H; rw [hy197]; with_reducible exact H2_) | (have H2_ := (Option.bind_some _ _).symm.trans H; with_reducible exact H2_) | with_reducible exact H | (rw [hy197]; exact H) | exact H
             have Ny197 := iC.mk hy197
             clear hy197
             have H' := iC.mk H
             clear H
             try go_wp2
             have n0_ := iC.mk (Kd.R_drew HO_189006.out)
             have n1_ := iC.mk (iM BK187.out)
             have n2_ := iC.mk (iM BK188.out)
             have n3_ := iC.mk (iJ HB.out)
             clear HO_189006
             clear BK187
             clear BK188
             clear HB
             have HO_189006 := n0_
             have BK187 := n1_
             have BK188 := n2_
             have HB := n3_
             clear n0_ n1_ n2_ n3_
             have p195 : 0 ≤ (x22_2 : Int) := of_decide_eq_true asm_
             have q195 : x22_2 < (l5.length : Int) := of_decide_eq_true asm_
             obtain ⟨ad195, e195, hx195_0⟩ := Kd.at_int HR5.out x22_2 p195 q195
             have hw195_0 := hx195_0
             cases e195
             replace hx195_0 := (HB.out.cell (World.block_lt_of_cell? w _ hx195_0)).trans hx195_0
             replace p195 := eq_true p195
             replace q195 := eq_true q195
             have p196 : 0 ≤ (x22_2 : Int) := of_decide_eq_true asm_
             have q196 : x22_2 < (l5.length : Int) := of_decide_eq_true asm_
             obtain ⟨ad196, e196, hx196_0⟩ := Kd.at_int HR5.out x22_2 p196 q196
             have hw196_0 := hx196_0
             obtain rfl : ad195 = ad196 := (by injection e196)
             replace hx196_0 := (HB.out.cell (World.block_lt_of_cell? w _ hx196_0)).trans hx196_0
             replace p196 := eq_true p196
             replace q196 := eq_true q196
             refine qY (n := 21) (S := fun w' => w'.cell? ⟨gb188, 0, none⟩ = some (.int .u8 ((1 + (Int.tmod a0 7)) % 256)) ∧ w'.cell? ⟨gb188, 1, none⟩ = some (.int .u32 0) ∧ w'.cell? ⟨gb188, 2, none⟩ = some (.int .u32 0) ∧ w'.cell? ⟨gb188, 3, none⟩ = some (.slice none 0 0) ∧ w'.cell? ⟨gb188, 4, none⟩ = some (.slice none 0 0) ∧ w'.cell? ⟨gb188, 5, none⟩ = some (.int .u32 a2) ∧ w'.cell? ⟨gb188, 6, none⟩ = some (u189006) ∧ w'.cell? ⟨gb188, 7, none⟩ = some (.int .i64 0) ∧ w'.cell? ⟨gb188, 8, none⟩ = some (.int .i64 0) ∧ w'.cell? ⟨gb188, 9, none⟩ = some (.slice none 0 0) ∧ w'.cell? (ad195.add (x22_2).toNat) = some (.int .u16 (rd l5 x22_2)) ∧ w'.cell? (ad195.add (x22_2).toNat) = some (.int .u16 (rd l5 x22_2))) (ds := [20]) #[false, false, false, false, false, false, false, false, false, false, false, false, false, false, false, false, false, false, false, false, false] (by kernel_rfl) rfl rfl ⟨(iE BK188.out 0).trans rfl, (iE BK188.out 1).trans rfl, (iE BK188.out 2).trans rfl, (iE BK188.out 3).trans rfl, (iE BK188.out 4).trans rfl, (iE BK188.out 5).trans rfl, (iE BK188.out 6).trans rfl, (iE BK188.out 7).trans rfl, (iE BK188.out 8).trans rfl, (iE BK188.out 9).trans rfl, ((HB.out.cell (World.block_lt_of_cell? w _ hw195_0)).trans hw195_0), ((HB.out.cell (World.block_lt_of_cell? w _ hw196_0)).trans hw196_0)⟩ (fun hHeld => ?_); refine mZ stratumlaw07_Make.tab21 stratumlaw07_Make.bits21 (fun HT_ HW_ => ?_)
             generalize wr.drew = w42 at HO_189006 BK187 BK188 HB hx195_0 hx196_0 hHeld ⊢
             refine jL (i := 0) (N := some 75) (v := ?_) (a' := ?_) #[true, false, false, false, false, false, false, false, false, false, false, false, false, false, false, false, false, false, false, false, false] rfl rfl (jF HT_.out (by kernel_rfl)) (fun _ _ _ h => h) (Or.inl ⟨by rfl, ?_⟩) ?_ ?_
             rotate_left
             ·intro w'
              go_simp
              with_reducible rfl
             rotate_left
             ·simp only [Act.put, List.setIfInBounds_toArray, List.set_cons_zero, List.set_cons_succ, iR, jG]
              rfl
             refine jL (i := 1) (N := some 76) (v := ?_) (a' := ?_) #[true, true, false, false, false, false, false, false, false, false, false, false, false, false, false, false, false, false, false, false, false] rfl rfl (jF HT_.out (by kernel_rfl)) (fun _ _ _ h => h) (Or.inl ⟨by rfl, ?_⟩) ?_ ?_
             rotate_left
             ·intro w'
              go_simp
              with_reducible rfl
             rotate_left
             ·simp only [Act.put, List.setIfInBounds_toArray, List.set_cons_zero, List.set_cons_succ, iR, jG]
              rfl
             refine jL (i := 3) (N := some 78) (v := ?_) (a' := ?_) #[true, true, false, true, false, false, false, false, false, false, false, false, false, false, false, false, false, false, false, false, false] rfl rfl (jF HT_.out (by kernel_rfl)) (fun _ _ _ h => h) (Or.inl ⟨by rfl, ?_⟩) ?_ ?_
             rotate_left
             ·intro w'
              go_simp
              with_reducible rfl
             rotate_left
             ·simp only [Act.put, List.setIfInBounds_toArray, List.set_cons_zero, List.set_cons_succ, iR, jG]
              rfl
             refine jL (i := 4) (N := some 79) (v := ?_) (a' := ?_) #[true, true, false, true, true, false, false, false, false, false, false, false, false, false, false, false, false, false, false, false, false] rfl rfl (jF HT_.out (by kernel_rfl)) (fun _ _ _ h => h) (Or.inl ⟨by rfl, ?_⟩) ?_ ?_
             rotate_left
             ·intro w'
              go_simp
              with_reducible rfl
             rotate_left
             ·simp only [Act.put, List.setIfInBounds_toArray, List.set_cons_zero, List.set_cons_succ, iR, jG]
              rfl
             refine jL (i := 5) (N := some 80) (v := ?_) (a' := ?_) #[true, true, false, true, true, true, false, false, false, false, false, false, false, false, false, false, false, false, false, false, false] rfl rfl (jF HT_.out (by kernel_rfl)) (fun _ _ _ h => h) (Or.inl ⟨by rfl, ?_⟩) ?_ ?_
             rotate_left
             ·intro w'
              go_simp
              with_reducible rfl
             rotate_left
             ·simp only [Act.put, List.setIfInBounds_toArray, List.set_cons_zero, List.set_cons_succ, iR, jG]
              rfl
             refine jL (i := 9) (N := some 84) (v := ?_) (a' := ?_) #[true, true, false, true, true, true, false, false, false, true, false, false, false, false, false, false, false, false, false, false, false] rfl rfl (jF HT_.out (by kernel_rfl)) (fun _ _ _ h => h) (Or.inl ⟨by rfl, ?_⟩) ?_ ?_
             rotate_left
             ·intro w'
              go_simp
              with_reducible rfl
             rotate_left
             ·simp only [Act.put, List.setIfInBounds_toArray, List.set_cons_zero, List.set_cons_succ, iR, jG]
              rfl
             refine jL (i := 10) (N := some 85) (v := ?_) (a' := ?_) #[true, true, false, true, true, true, false, false, false, true, true, false, false, false, false, false, false, false, false, false, false] rfl rfl (jF HT_.out (by kernel_rfl)) (fun _ _ _ h => h) (Or.inl ⟨by rfl, ?_⟩) ?_ ?_
             rotate_left
             ·intro w'
              go_simp
              with_reducible rfl
             rotate_left
             ·simp only [Act.put, List.setIfInBounds_toArray, List.set_cons_zero, List.set_cons_succ, iR, jG]
              rfl
             refine jL (i := 11) (N := some 86) (v := ?_) (a' := ?_) #[true, true, false, true, true, true, false, false, false, true, true, true, false, false, false, false, false, false, false, false, false] rfl rfl (jF HT_.out (by kernel_rfl)) (fun _ _ _ h => h) (Or.inl ⟨by rfl, ?_⟩) ?_ ?_
             rotate_left
             ·intro w'
              go_simp
              with_reducible rfl
             rotate_left
             ·simp only [Act.put, List.setIfInBounds_toArray, List.set_cons_zero, List.set_cons_succ, iR, jG]
              rfl
             refine rW (i := 2) (N := some 77) (v := ?_) (a' := ?_) #[true, true, true, true, true, true, false, false, false, true, true, true, false, false, false, false, false, false, false, false, false] rfl rfl (lI HT_.out HW_.out (by kernel_rfl)) (fun _ _ _ h => h) (Or.inl ⟨by rfl, ?_⟩) hHeld ?_ ?_
             rotate_left
             ·rintro w' ⟨s0, s1, s2, s3, s4, s5, s6, s7, s8, s9, s10, s11⟩
              go_simp
              with_reducible rfl
             rotate_left
             ·simp only [Act.put, List.setIfInBounds_toArray, List.set_cons_zero, List.set_cons_succ, iR, jG]
              rfl
             refine rW (i := 6) (N := some 81) (v := ?_) (a' := ?_) #[true, true, true, true, true, true, true, false, false, true, true, true, false, false, false, false, false, false, false, false, false] rfl rfl (lI HT_.out HW_.out (by kernel_rfl)) (fun _ _ _ h => h) (Or.inl ⟨by rfl, ?_⟩) hHeld ?_ ?_
             rotate_left
             ·rintro w' ⟨s0, s1, s2, s3, s4, s5, s6, s7, s8, s9, s10, s11⟩
              go_simp
              with_reducible rfl
             rotate_left
             ·simp only [Act.put, List.setIfInBounds_toArray, List.set_cons_zero, List.set_cons_succ, iR, jG]
              rfl
             refine jL (i := 7) (N := some 82) (v := ?_) (a' := ?_) #[true, true, true, true, true, true, true, true, false, true, true, true, false, false, false, false, false, false, false, false, false] rfl rfl (jF HT_.out (by kernel_rfl)) (fun _ _ _ h => h) (Or.inl ⟨by rfl, ?_⟩) ?_ ?_
             rotate_left
             ·intro w'
              go_simp
              with_reducible rfl
             rotate_left
             ·simp only [Act.put, List.setIfInBounds_toArray, List.set_cons_zero, List.set_cons_succ, iR, jG]
              rfl
             refine jL (i := 8) (N := some 83) (v := ?_) (a' := ?_) #[true, true, true, true, true, true, true, true, true, true, true, true, false, false, false, false, false, false, false, false, false] rfl rfl (jF HT_.out (by kernel_rfl)) (fun _ _ _ h => h) (Or.inl ⟨by rfl, ?_⟩) ?_ ?_
             rotate_left
             ·intro w'
              go_simp
              with_reducible rfl
             rotate_left
             ·simp only [Act.put, List.setIfInBounds_toArray, List.set_cons_zero, List.set_cons_succ, iR, jG]
              rfl
             refine rW (i := 12) (N := some 87) (v := ?_) (a' := ?_) #[true, true, true, true, true, true, true, true, true, true, true, true, true, false, false, false, false, false, false, false, false] rfl rfl (lI HT_.out HW_.out (by kernel_rfl)) (fun _ _ _ h => h) (Or.inl ⟨by rfl, ?_⟩) hHeld ?_ ?_
             rotate_left
             ·rintro w' ⟨s0, s1, s2, s3, s4, s5, s6, s7, s8, s9, s10, s11⟩
              go_simp
              with_reducible rfl
             rotate_left
             ·simp only [Act.put, List.setIfInBounds_toArray, List.set_cons_zero, List.set_cons_succ, iR, jG]
              rfl
             refine jL (i := 13) (N := some 88) (v := ?_) (a' := ?_) #[true, true, true, true, true, true, true, true, true, true, true, true, true, true, false, false, false, false, false, false, false] rfl rfl (jF HT_.out (by kernel_rfl)) (fun _ _ _ h => h) (Or.inl ⟨by rfl, ?_⟩) ?_ ?_
             rotate_left
             ·intro w'
              go_simp
              with_reducible rfl
             rotate_left
             ·simp only [Act.put, List.setIfInBounds_toArray, List.set_cons_zero, List.set_cons_succ, iR, jG]
              rfl
             refine jL (i := 14) (N := some 89) (v := ?_) (a' := ?_) #[true, true, true, true, true, true, true, true, true, true, true, true, true, true, true, false, false, false, false, false, false] rfl rfl (jF HT_.out (by kernel_rfl)) (fun _ _ _ h => h) (Or.inl ⟨by rfl, ?_⟩) ?_ ?_
             rotate_left
             ·intro w'
              go_simp
              with_reducible rfl
             rotate_left
             ·simp only [Act.put, List.setIfInBounds_toArray, List.set_cons_zero, List.set_cons_succ, iR, jG]
              rfl
             refine jL (i := 15) (N := some 90) (v := ?_) (a' := ?_) #[true, true, true, true, true, true, true, true, true, true, true, true, true, true, true, true, false, false, false, false, false] rfl rfl (jF HT_.out (by kernel_rfl)) (fun _ _ _ h => h) (Or.inl ⟨by rfl, ?_⟩) ?_ ?_
             rotate_left
             ·intro w'
              go_simp
              with_reducible rfl
             rotate_left
             ·simp only [Act.put, List.setIfInBounds_toArray, List.set_cons_zero, List.set_cons_succ, iR, jG]
              rfl
             refine one_ (i := 16) (N := some 91) #[true, true, true, true, true, true, true, true, true, true, true, true, true, true, true, true, true, false, false, false, false] rfl rfl (lW HT_.out (by kernel_rfl)) (by decide) (fun K hK => ?_)
             refine jH (w1 := ?_) (v := ?_) (by rfl) rfl ?_ ?_
             rotate_left 2
             ·go_simp
              constructor
              ·rfl
              ·rfl
             refine hK.out _ _ ⟨(iE (iI BK188.out _) 0).trans rfl, (iE (iI BK188.out _) 1).trans rfl, (iE (iI BK188.out _) 2).trans rfl, (iE (iI BK188.out _) 3).trans rfl, (iE (iI BK188.out _) 4).trans rfl, (iE (iI BK188.out _) 5).trans rfl, (iE (iI BK188.out _) 6).trans rfl, (iE (iI BK188.out _) 7).trans rfl, (iE (iI BK188.out _) 8).trans rfl, (iE (iI BK188.out _) 9).trans rfl, (World.cell?_alloc_lt _ _ _ (World.block_lt_of_cell? _ _ (((HB.out.cell (World.block_lt_of_cell? w _ hw195_0)).trans hw195_0)))).trans (((HB.out.cell (World.block_lt_of_cell? w _ hw195_0)).trans hw195_0)), (World.cell?_alloc_lt _ _ _ (World.block_lt_of_cell? _ _ (((HB.out.cell (World.block_lt_of_cell? w _ hw196_0)).trans hw196_0)))).trans (((HB.out.cell (World.block_lt_of_cell? w _ hw196_0)).trans hw196_0))⟩ (fun hHeld => ?_)
             clear hK K
             refine lN (a' := ?_) ?_ ?_
             rotate_left
             ·show Act.put _ (some 91) _ = _
              simp only [Act.put, List.setIfInBounds_toArray, List.set_cons_zero, List.set_cons_succ, iR, jG]
              rfl
             refine one_ (i := 17) (N := some 92) #[true, true, true, true, true, true, true, true, true, true, true, true, true, true, true, true, true, true, false, false, false] rfl rfl (lW HT_.out (by kernel_rfl)) (by decide) (fun K hK => ?_)
             refine Kd.R_append_step k98 (w0 := w) w.heap.size (by rfl) (.tmp 77) (.tmp 91) 25 98 (.agg #[(.int .i64 0), (.int .i64 0)]) 16 rfl Tryd.underlying25 ZG rfl (by decide) (by omega) u189006 x189006_2 (⟨Int.tmod (wrap64 (rd l5 x22_2)) 10000, Int.tmod (wrap64 (rd l5 x22_2)) 6⟩ : S98) [.int .i64 (Int.tmod (wrap64 (rd l5 x22_2)) 10000), .int .i64 (Int.tmod (wrap64 (rd l5 x22_2)) 6)] (fun _ => True) (fun _ => False) rfl rfl ?aP (fun _ hk => hk.elim) ?aF ?aO ?aB ?aS ?aL ?_
             (case aP => exact VD _ _ _ (⟨Int.tmod (wrap64 (rd l5 x22_2)) 10000, Int.tmod (wrap64 (rd l5 x22_2)) 6⟩ : S98))
             (case aB => exact (by repeat (first | (with_reducible first | exact HB.out | apply iG | apply iF | apply iJ | refine iH ?_ GE187.out | refine iH ?_ GE188.out) | exact HB.out)))
             (case aF => exact (fun _ _ => trivial))
             (case aO => exact (by (with_reducible repeat (first | apply Kd.R_alloc | apply Kd.R_drewN | apply Kd.R_drew)); exact HO_189006.out))
             (case aS => exact (iQ (by repeat (first | (with_reducible first | exact HB.out | apply iG | apply iF | apply iJ | refine iH ?_ GE187.out | refine iH ?_ GE188.out) | exact HB.out))))
             (case aL => have := LMc41.out; omega)
             intro v198 w43 ho hb hg hat
             rw [← Ny197.out] at ho
             have n0_ := iC.mk (nD (g := gb187) (o := .cells #[.int .u8 0, .int .u32 0, .int .u32 0, .slice none 0 0, .slice none 0 0, .int .u32 0, .slice none 0 0, .int .i64 0, .int .i64 0, .slice none 0 0] 30 (0, 0)) (bk_ BK187.out) hg (Kd.R_ne HO_189006.out BK187.out (by decide)))
             have n1_ := iC.mk (nD (g := gb188) (o := .cells #[.int .u8 ((1 + (Int.tmod a0 7)) % 256), .int .u32 0, .int .u32 0, .slice none 0 0, .slice none 0 0, .int .u32 a2, u189006, .int .i64 0, .int .i64 0, .slice none 0 0] 30 (0, 0)) (bk_ BK188.out) hg (Kd.R_ne HO_189006.out BK188.out (by decide)))
             have n2_ := iC.mk (hb)
             have n3_ := iC.mk (ho)
             clear BK187
             clear BK188
             clear HB
             clear HO_189006
             have BK187 := n0_
             have BK188 := n1_
             have HB := n2_
             have HO199 := n3_
             clear n0_ n1_ n2_ n3_
             clear ho hb hg hat
             obtain ⟨Ao44, co44, eo44⟩ := Kd.R_slice HO199.out
             (first | subst eo44 | (injection eo44 with f1_ f2_ f3_; have f4_ := f1_.symm; have f5_ := f3_.symm; clear f1_ f2_ f3_; subst f4_; subst f5_))
             refine hK.out _ _ ⟨(iE BK188.out 0).trans rfl, (iE BK188.out 1).trans rfl, (iE BK188.out 2).trans rfl, (iE BK188.out 3).trans rfl, (iE BK188.out 4).trans rfl, (iE BK188.out 5).trans rfl, (iE BK188.out 6).trans rfl, (iE BK188.out 7).trans rfl, (iE BK188.out 8).trans rfl, (iE BK188.out 9).trans rfl, ((HB.out.cell (World.block_lt_of_cell? w _ hw195_0)).trans hw195_0), ((HB.out.cell (World.block_lt_of_cell? w _ hw196_0)).trans hw196_0)⟩ (fun hHeld => ?_)
             clear hK K
             refine lN (a' := ?_) ?_ ?_
             rotate_left
             ·show Act.put _ (some 92) _ = _
              simp only [Act.put, List.setIfInBounds_toArray, List.set_cons_zero, List.set_cons_succ, iR, jG]
              rfl
             refine jL (i := 18) (N := some 93) (v := ?_) (a' := ?_) #[true, true, true, true, true, true, true, true, true, true, true, true, true, true, true, true, true, true, true, false, false] rfl rfl (jF HT_.out (by kernel_rfl)) (fun _ _ _ h => h) (Or.inl ⟨by rfl, ?_⟩) ?_ ?_
             rotate_left
             ·intro w'
              go_simp
              with_reducible rfl
             rotate_left
             ·simp only [Act.put, List.setIfInBounds_toArray, List.set_cons_zero, List.set_cons_succ, iR, jG]
              rfl
             refine jL (i := 19) (N := some 94) (v := ?_) (a' := ?_) #[true, true, true, true, true, true, true, true, true, true, true, true, true, true, true, true, true, true, true, true, false] rfl rfl (jF HT_.out (by kernel_rfl)) (fun _ _ _ h => h) (Or.inl ⟨by rfl, ?_⟩) ?_ ?_
             rotate_left
             ·intro w'
              go_simp
              with_reducible rfl
             rotate_left
             ·simp only [Act.put, List.setIfInBounds_toArray, List.set_cons_zero, List.set_cons_succ, iR, jG]
              rfl
             refine j1_ (i := 20) (N := none) #[true, true, true, true, true, true, true, true, true, true, true, true, true, true, true, true, true, true, true, true, true] rfl rfl (lW HT_.out (by kernel_rfl)) (by decide) (fun K hK => ?_)
             have hs45 : w43.cell? ⟨gb188, 6, none⟩ = some (u189006) := (iE BK188.out 6).trans rfl
             have hfs45 := iD BK188.out 6
             have hns45_0 := NB187_188.out
             have hms45_0 := NB188_187.out
             refine WQ (w1 := ?_) (by rfl) rfl ?_ ?_
             rotate_left
             ·go_simp
              rfl
             refine hK.out _ _ ?_
             clear hK K
             refine JA (qG HT_.out (by kernel_rfl)) ?_
             try go_wp2
             go_roundg k2
             case measure => have := HK1.out; have := HK2.out; omega
             case rel => exact ⟨(wrap64 (x22_2 + 1)), (y197), (.slice Ao44 y197.length co44), (by first | rfl | (simp; done) | (simp [*]; done)), H', ⟨by have := HK1.out; have := HK2.out; omega⟩, ⟨by (with_reducible repeat (first | apply Kd.R_alloc | apply Kd.R_drewN | apply Kd.R_drew)); exact Kd.R_mono (Kd.R_far (p := ⟨gb188, 6, none⟩) (Kd.R_types HO199.out BK188.out (by decide)) (fun _ hk => hk.2) (.slice Ao44 y197.length co44)) (fun _ hk => trivial)⟩, ⟨by (with_reducible repeat (first | refine iL ?_ _ | refine iM ?_ | refine iI ?_ _)); refine jZ ?_ NB187_188.out _; (with_reducible repeat (first | refine iL ?_ _ | refine iM ?_ | refine iI ?_ _)); exact BK187.out⟩, ⟨by (with_reducible repeat (first | refine iL ?_ _ | refine iM ?_ | refine iI ?_ _)); refine iY (cs := #[.int .u8 ((1 + (Int.tmod a0 7)) % 256), .int .u32 0, .int .u32 0, .slice none 0 0, .slice none 0 0, .int .u32 a2, u189006, .int .i64 0, .int .i64 0, .slice none 0 0]) ?_ 6 _ rfl; (with_reducible repeat (first | refine iL ?_ _ | refine iM ?_ | refine iI ?_ _)); exact BK188.out⟩, ⟨by repeat (first | (with_reducible first | exact HB.out | apply iG | apply iF | apply iJ | refine iH ?_ GE187.out | refine iH ?_ GE188.out) | exact HB.out)⟩⟩
            ·rw [if_neg c41] at H
             exact absurd H (by simp)
           ·rw [if_neg c40] at H
            exact absurd H (by simp)
          ·rw [if_neg c39] at H
           have c39b0 : decide (x22_2 < 40) = false := decide_eq_false c39
           clear c39
           simp only [Option.some.injEq, Prod.mk.injEq] at H
           obtain ⟨rfl, rfl, rfl, rfl, rfl, rfl, rfl, rfl, rfl, rfl⟩ := H
           have hnb46 := NB188_187.out
           have hnc46 := NB187_188.out
           have hcz47_0 : wr.cell? ⟨gb188, 0, none⟩ = some (.int .u8 ((1 + (Int.tmod a0 7)) % 256)) := (iE BK188.out 0).trans rfl
           have hcz47_1 : wr.cell? ⟨gb188, 1, none⟩ = some (.int .u32 0) := (iE BK188.out 1).trans rfl
           have hcz47_2 : wr.cell? ⟨gb188, 2, none⟩ = some (.int .u32 0) := (iE BK188.out 2).trans rfl
           have hcz47_3 : wr.cell? ⟨gb188, 3, none⟩ = some (.slice none 0 0) := (iE BK188.out 3).trans rfl
           have hcz47_4 : wr.cell? ⟨gb188, 4, none⟩ = some (.slice none 0 0) := (iE BK188.out 4).trans rfl
           have hcz47_5 : wr.cell? ⟨gb188, 5, none⟩ = some (.int .u32 a2) := (iE BK188.out 5).trans rfl
           have hcz47_6 : wr.cell? ⟨gb188, 6, none⟩ = some (u189006) := (iE BK188.out 6).trans rfl
           have hcz47_7 : wr.cell? ⟨gb188, 7, none⟩ = some (.int .i64 0) := (iE BK188.out 7).trans rfl
           have hcz47_8 : wr.cell? ⟨gb188, 8, none⟩ = some (.int .i64 0) := (iE BK188.out 8).trans rfl
           have hcz47_9 : wr.cell? ⟨gb188, 9, none⟩ = some (.slice none 0 0) := (iE BK188.out 9).trans rfl
           have hfz47_0 := iD BK188.out 0
           have hfz47_1 := iD BK188.out 1
           have hfz47_2 := iD BK188.out 2
           have hfz47_3 := iD BK188.out 3
           have hfz47_4 := iD BK188.out 4
           have hfz47_5 := iD BK188.out 5
           have hfz47_6 := iD BK188.out 6
           have hfz47_7 := iD BK188.out 7
           have hfz47_8 := iD BK188.out 8
           have hfz47_9 := iD BK188.out 9
           have hcz48_0 : wr.cell? ⟨gb187, 0, none⟩ = some (.int .u8 0) := (iE BK187.out 0).trans rfl
           have hcz48_1 : wr.cell? ⟨gb187, 1, none⟩ = some (.int .u32 0) := (iE BK187.out 1).trans rfl
           have hcz48_2 : wr.cell? ⟨gb187, 2, none⟩ = some (.int .u32 0) := (iE BK187.out 2).trans rfl
           have hcz48_3 : wr.cell? ⟨gb187, 3, none⟩ = some (.slice none 0 0) := (iE BK187.out 3).trans rfl
           have hcz48_4 : wr.cell? ⟨gb187, 4, none⟩ = some (.slice none 0 0) := (iE BK187.out 4).trans rfl
           have hcz48_5 : wr.cell? ⟨gb187, 5, none⟩ = some (.int .u32 0) := (iE BK187.out 5).trans rfl
           have hcz48_6 : wr.cell? ⟨gb187, 6, none⟩ = some (.slice none 0 0) := (iE BK187.out 6).trans rfl
           have hcz48_7 : wr.cell? ⟨gb187, 7, none⟩ = some (.int .i64 0) := (iE BK187.out 7).trans rfl
           have hcz48_8 : wr.cell? ⟨gb187, 8, none⟩ = some (.int .i64 0) := (iE BK187.out 8).trans rfl
           have hcz48_9 : wr.cell? ⟨gb187, 9, none⟩ = some (.slice none 0 0) := (iE BK187.out 9).trans rfl
           have hfz48_0 := iD BK187.out 0
           have hfz48_1 := iD BK187.out 1
           have hfz48_2 := iD BK187.out 2
           have hfz48_3 := iD BK187.out 3
           have hfz48_4 := iD BK187.out 4
           have hfz48_5 := iD BK187.out 5
           have hfz48_6 := iD BK187.out 6
           have hfz48_7 := iD BK187.out 7
           have hfz48_8 := iD BK187.out 8
           have hfz48_9 := iD BK187.out 9
           obtain ⟨Ao49, co49, eo49⟩ := Kd.R_slice HO_189006.out
           subst eo49
           go_wp2
           refine bodyPost_ret (results_cell_row rfl _ _ gb187 30 #[.int .u8 ((1 + (Int.tmod a0 7)) % 256), .int .u32 0, .int .u32 0, .slice none 0 0, .slice none 0 0, .int .u32 a2, .slice Ao49 x189006_2.length co49, .int .i64 0, .int .i64 0, .slice none 0 0] (0, 0) _ rfl (by (with_reducible repeat (first | refine iL ?_ _ | refine iM ?_ | refine iI ?_ _)); refine iY (cs := #[.int .u8 ((1 + (Int.tmod a0 7)) % 256), .int .u32 0, .int .u32 0, .slice none 0 0, .slice none 0 0, .int .u32 a2, .slice Ao49 x189006_2.length co49, .int .i64 0, .int .i64 0, .slice none 0 0]) ?_ 9 _ rfl; (with_reducible repeat (first | refine iL ?_ _ | refine iM ?_ | refine iI ?_ _)); refine iY (cs := #[.int .u8 ((1 + (Int.tmod a0 7)) % 256), .int .u32 0, .int .u32 0, .slice none 0 0, .slice none 0 0, .int .u32 a2, .slice Ao49 x189006_2.length co49, .int .i64 0, .int .i64 0, .slice none 0 0]) ?_ 8 _ rfl; (with_reducible repeat (first | refine iL ?_ _ | refine iM ?_ | refine iI ?_ _)); refine iY (cs := #[.int .u8 ((1 + (Int.tmod a0 7)) % 256), .int .u32 0, .int .u32 0, .slice none 0 0, .slice none 0 0, .int .u32 a2, .slice Ao49 x189006_2.length co49, .int .i64 0, .int .i64 0, .slice none 0 0]) ?_ 7 _ rfl; (with_reducible repeat (first | refine iL ?_ _ | refine iM ?_ | refine iI ?_ _)); refine iY (cs := #[.int .u8 ((1 + (Int.tmod a0 7)) % 256), .int .u32 0, .int .u32 0, .slice none 0 0, .slice none 0 0, .int .u32 a2, .slice none 0 0, .int .i64 0, .int .i64 0, .slice none 0 0]) ?_ 6 _ rfl; (with_reducible repeat (first | refine iL ?_ _ | refine iM ?_ | refine iI ?_ _)); refine iY (cs := #[.int .u8 ((1 + (Int.tmod a0 7)) % 256), .int .u32 0, .int .u32 0, .slice none 0 0, .slice none 0 0, .int .u32 0, .slice none 0 0, .int .i64 0, .int .i64 0, .slice none 0 0]) ?_ 5 _ rfl; (with_reducible repeat (first | refine iL ?_ _ | refine iM ?_ | refine iI ?_ _)); refine iY (cs := #[.int .u8 ((1 + (Int.tmod a0 7)) % 256), .int .u32 0, .int .u32 0, .slice none 0 0, .slice none 0 0, .int .u32 0, .slice none 0 0, .int .i64 0, .int .i64 0, .slice none 0 0]) ?_ 4 _ rfl; (with_reducible repeat (first | refine iL ?_ _ | refine iM ?_ | refine iI ?_ _)); refine iY (cs := #[.int .u8 ((1 + (Int.tmod a0 7)) % 256), .int .u32 0, .int .u32 0, .slice none 0 0, .slice none 0 0, .int .u32 0, .slice none 0 0, .int .i64 0, .int .i64 0, .slice none 0 0]) ?_ 3 _ rfl; (with_reducible repeat (first | refine iL ?_ _ | refine iM ?_ | refine iI ?_ _)); refine iY (cs := #[.int .u8 ((1 + (Int.tmod a0 7)) % 256), .int .u32 0, .int .u32 0, .slice none 0 0, .slice none 0 0, .int .u32 0, .slice none 0 0, .int .i64 0, .int .i64 0, .slice none 0 0]) ?_ 2 _ rfl; (with_reducible repeat (first | refine iL ?_ _ | refine iM ?_ | refine iI ?_ _)); refine iY (cs := #[.int .u8 ((1 + (Int.tmod a0 7)) % 256), .int .u32 0, .int .u32 0, .slice none 0 0, .slice none 0 0, .int .u32 0, .slice none 0 0, .int .i64 0, .int .i64 0, .slice none 0 0]) ?_ 1 _ rfl; (with_reducible repeat (first | refine iL ?_ _ | refine iM ?_ | refine iI ?_ _)); refine iY (cs := #[.int .u8 0, .int .u32 0, .int .u32 0, .slice none 0 0, .slice none 0 0, .int .u32 0, .slice none 0 0, .int .i64 0, .int .i64 0, .slice none 0 0]) ?_ 0 _ rfl; (with_reducible repeat (first | refine iL ?_ _ | refine iM ?_ | refine iI ?_ _)); exact BK187.out) Tryd.underlying30 rfl (by kernel_rfl)) rfl ?_
           exact ⟨_, _, _, _, by first | rfl | (simp [iW, iV] <;> rfl) | (simp [*, iW, iV] <;> rfl), by first | exact Kd.R_nil _ _ _ _ _ | exact Kd.N_nil _ _ _ _ _ | exact Kd.V_nil _ _ _ _ _ | exact Kd.Q_nil _ _ _ _ _ | exact Kd.S_nil _ _ _ _ _, by first | exact Kd.R_nil _ _ _ _ _ | exact Kd.N_nil _ _ _ _ _ | exact Kd.V_nil _ _ _ _ _ | exact Kd.Q_nil _ _ _ _ _ | exact Kd.S_nil _ _ _ _ _, by (with_reducible repeat (first | apply Kd.R_alloc | apply Kd.R_drewN | apply Kd.R_drew)); exact Kd.R_mono (Kd.R_far (p := ⟨gb187, 9, none⟩) (Kd.R_far (p := ⟨gb187, 8, none⟩) (Kd.R_far (p := ⟨gb187, 7, none⟩) (Kd.R_far (p := ⟨gb187, 6, none⟩) (Kd.R_far (p := ⟨gb187, 5, none⟩) (Kd.R_far (p := ⟨gb187, 4, none⟩) (Kd.R_far (p := ⟨gb187, 3, none⟩) (Kd.R_far (p := ⟨gb187, 2, none⟩) (Kd.R_far (p := ⟨gb187, 1, none⟩) (Kd.R_far (p := ⟨gb187, 0, none⟩) (Kd.R_types HO_189006.out BK187.out (by decide)) (fun _ hk => hk.2) (.int .u8 ((1 + (Int.tmod a0 7)) % 256))) (fun _ hk => hk.2) (.int .u32 0)) (fun _ hk => hk.2) (.int .u32 0)) (fun _ hk => hk.2) (.slice none 0 0)) (fun _ hk => hk.2) (.slice none 0 0)) (fun _ hk => hk.2) (.int .u32 a2)) (fun _ hk => hk.2) (.slice Ao49 x189006_2.length co49)) (fun _ hk => hk.2) (.int .i64 0)) (fun _ hk => hk.2) (.int .i64 0)) (fun _ hk => hk.2) (.slice none 0 0)) (fun _ hk => trivial), by first | exact Kd.R_nil _ _ _ _ _ | exact Kd.N_nil _ _ _ _ _ | exact Kd.V_nil _ _ _ _ _ | exact Kd.Q_nil _ _ _ _ _ | exact Kd.S_nil _ _ _ _ _, by repeat (first | (with_reducible first | exact HB.out | apply iG | apply iF | apply iJ | refine iH ?_ GE187.out | refine iH ?_ GE188.out) | exact HB.out)⟩
         ·rw [if_neg c38] at H
          have c38b0 : decide (x22_2 < (l5.length : Int)) = false := decide_eq_false c38
          clear c38
          simp only [Option.some.injEq, Prod.mk.injEq] at H
          obtain ⟨rfl, rfl, rfl, rfl, rfl, rfl, rfl, rfl, rfl, rfl⟩ := H
          have hnb50 := NB188_187.out
          have hnc50 := NB187_188.out
          have hcz51_0 : wr.cell? ⟨gb188, 0, none⟩ = some (.int .u8 ((1 + (Int.tmod a0 7)) % 256)) := (iE BK188.out 0).trans rfl
          have hcz51_1 : wr.cell? ⟨gb188, 1, none⟩ = some (.int .u32 0) := (iE BK188.out 1).trans rfl
          have hcz51_2 : wr.cell? ⟨gb188, 2, none⟩ = some (.int .u32 0) := (iE BK188.out 2).trans rfl
          have hcz51_3 : wr.cell? ⟨gb188, 3, none⟩ = some (.slice none 0 0) := (iE BK188.out 3).trans rfl
          have hcz51_4 : wr.cell? ⟨gb188, 4, none⟩ = some (.slice none 0 0) := (iE BK188.out 4).trans rfl
          have hcz51_5 : wr.cell? ⟨gb188, 5, none⟩ = some (.int .u32 a2) := (iE BK188.out 5).trans rfl
          have hcz51_6 : wr.cell? ⟨gb188, 6, none⟩ = some (u189006) := (iE BK188.out 6).trans rfl
          have hcz51_7 : wr.cell? ⟨gb188, 7, none⟩ = some (.int .i64 0) := (iE BK188.out 7).trans rfl
          have hcz51_8 : wr.cell? ⟨gb188, 8, none⟩ = some (.int .i64 0) := (iE BK188.out 8).trans rfl
          have hcz51_9 : wr.cell? ⟨gb188, 9, none⟩ = some (.slice none 0 0) := (iE BK188.out 9).trans rfl
          have hfz51_0 := iD BK188.out 0
          have hfz51_1 := iD BK188.out 1
          have hfz51_2 := iD BK188.out 2
          have hfz51_3 := iD BK188.out 3
          have hfz51_4 := iD BK188.out 4
          have hfz51_5 := iD BK188.out 5
          have hfz51_6 := iD BK188.out 6
          have hfz51_7 := iD BK188.out 7
          have hfz51_8 := iD BK188.out 8
          have hfz51_9 := iD BK188.out 9
          have hcz52_0 : wr.cell? ⟨gb187, 0, none⟩ = some (.int .u8 0) := (iE BK187.out 0).trans rfl
          have hcz52_1 : wr.cell? ⟨gb187, 1, none⟩ = some (.int .u32 0) := (iE BK187.out 1).trans rfl
          have hcz52_2 : wr.cell? ⟨gb187, 2, none⟩ = some (.int .u32 0) := (iE BK187.out 2).trans rfl
          have hcz52_3 : wr.cell? ⟨gb187, 3, none⟩ = some (.slice none 0 0) := (iE BK187.out 3).trans rfl
          have hcz52_4 : wr.cell? ⟨gb187, 4, none⟩ = some (.slice none 0 0) := (iE BK187.out 4).trans rfl
          have hcz52_5 : wr.cell? ⟨gb187, 5, none⟩ = some (.int .u32 0) := (iE BK187.out 5).trans rfl
          have hcz52_6 : wr.cell? ⟨gb187, 6, none⟩ = some (.slice none 0 0) := (iE BK187.out 6).trans rfl
          have hcz52_7 : wr.cell? ⟨gb187, 7, none⟩ = some (.int .i64 0) := (iE BK187.out 7).trans rfl
          have hcz52_8 : wr.cell? ⟨gb187, 8, none⟩ = some (.int .i64 0) := (iE BK187.out 8).trans rfl
          have hcz52_9 : wr.cell? ⟨gb187, 9, none⟩ = some (.slice none 0 0) := (iE BK187.out 9).trans rfl
          have hfz52_0 := iD BK187.out 0
          have hfz52_1 := iD BK187.out 1
          have hfz52_2 := iD BK187.out 2
          have hfz52_3 := iD BK187.out 3
          have hfz52_4 := iD BK187.out 4
          have hfz52_5 := iD BK187.out 5
          have hfz52_6 := iD BK187.out 6
          have hfz52_7 := iD BK187.out 7
          have hfz52_8 := iD BK187.out 8
          have hfz52_9 := iD BK187.out 9
          obtain ⟨Ao53, co53, eo53⟩ := Kd.R_slice HO_189006.out
          subst eo53
          go_wp2
          refine bodyPost_ret (results_cell_row rfl _ _ gb187 30 #[.int .u8 ((1 + (Int.tmod a0 7)) % 256), .int .u32 0, .int .u32 0, .slice none 0 0, .slice none 0 0, .int .u32 a2, .slice Ao53 x189006_2.length co53, .int .i64 0, .int .i64 0, .slice none 0 0] (0, 0) _ rfl (by (with_reducible repeat (first | refine iL ?_ _ | refine iM ?_ | refine iI ?_ _)); refine iY (cs := #[.int .u8 ((1 + (Int.tmod a0 7)) % 256), .int .u32 0, .int .u32 0, .slice none 0 0, .slice none 0 0, .int .u32 a2, .slice Ao53 x189006_2.length co53, .int .i64 0, .int .i64 0, .slice none 0 0]) ?_ 9 _ rfl; (with_reducible repeat (first | refine iL ?_ _ | refine iM ?_ | refine iI ?_ _)); refine iY (cs := #[.int .u8 ((1 + (Int.tmod a0 7)) % 256), .int .u32 0, .int .u32 0, .slice none 0 0, .slice none 0 0, .int .u32 a2, .slice Ao53 x189006_2.length co53, .int .i64 0, .int .i64 0, .slice none 0 0]) ?_ 8 _ rfl; (with_reducible repeat (first | refine iL ?_ _ | refine iM ?_ | refine iI ?_ _)); refine iY (cs := #[.int .u8 ((1 + (Int.tmod a0 7)) % 256), .int .u32 0, .int .u32 0, .slice none 0 0, .slice none 0 0, .int .u32 a2, .slice Ao53 x189006_2.length co53, .int .i64 0, .int .i64 0, .slice none 0 0]) ?_ 7 _ rfl; (with_reducible repeat (first | refine iL ?_ _ | refine iM ?_ | refine iI ?_ _)); refine iY (cs := #[.int .u8 ((1 + (Int.tmod a0 7)) % 256), .int .u32 0, .int .u32 0, .slice none 0 0, .slice none 0 0, .int .u32 a2, .slice none 0 0, .int .i64 0, .int .i64 0, .slice none 0 0]) ?_ 6 _ rfl; (with_reducible repeat (first | refine iL ?_ _ | refine iM ?_ | refine iI ?_ _)); refine iY (cs := #[.int .u8 ((1 + (Int.tmod a0 7)) % 256), .int .u32 0, .int .u32 0, .slice none 0 0, .slice none 0 0, .int .u32 0, .slice none 0 0, .int .i64 0, .int .i64 0, .slice none 0 0]) ?_ 5 _ rfl; (with_reducible repeat (first | refine iL ?_ _ | refine iM ?_ | refine iI ?_ _)); refine iY (cs := #[.int .u8 ((1 + (Int.tmod a0 7)) % 256), .int .u32 0, .int .u32 0, .slice none 0 0, .slice none 0 0, .int .u32 0, .slice none 0 0, .int .i64 0, .int .i64 0, .slice none 0 0]) ?_ 4 _ rfl; (with_reducible repeat (first | refine iL ?_ _ | refine iM ?_ | refine iI ?_ _)); refine iY (cs := #[.int .u8 ((1 + (Int.tmod a0 7)) % 256), .int .u32 0, .int .u32 0, .slice none 0 0, .slice none 0 0, .int .u32 0, .slice none 0 0, .int .i64 0, .int .i64 0, .slice none 0 0]) ?_ 3 _ rfl; (with_reducible repeat (first | refine iL ?_ _ | refine iM ?_ | refine iI ?_ _)); refine iY (cs := #[.int .u8 ((1 + (Int.tmod a0 7)) % 256), .int .u32 0, .int .u32 0, .slice none 0 0, .slice none 0 0, .int .u32 0, .slice none 0 0, .int .i64 0, .int .i64 0, .slice none 0 0]) ?_ 2 _ rfl; (with_reducible repeat (first | refine iL ?_ _ | refine iM ?_ | refine iI ?_ _)); refine iY (cs := #[.int .u8 ((1 + (Int.tmod a0 7)) % 256), .int .u32 0, .int .u32 0, .slice none 0 0, .slice none 0 0, .int .u32 0, .slice none 0 0, .int .i64 0, .int .i64 0, .slice none 0 0]) ?_ 1 _ rfl; (with_reducible repeat (first | refine iL ?_ _ | refine iM ?_ | refine iI ?_ _)); refine iY (cs := #[.int .u8 0, .int .u32 0, .int .u32 0, .slice none 0 0, .slice none 0 0, .int .u32 0, .slice none 0 0, .int .i64 0, .int .i64 0, .slice none 0 0]) ?_ 0 _ rfl; (with_reducible repeat (first | refine iL ?_ _ | refine iM ?_ | refine iI ?_ _)); exact BK187.out) Tryd.underlying30 rfl (by kernel_rfl)) rfl ?_
          exact ⟨_, _, _, _, by first | rfl | (simp [iW, iV] <;> rfl) | (simp [*, iW, iV] <;> rfl), by first | exact Kd.R_nil _ _ _ _ _ | exact Kd.N_nil _ _ _ _ _ | exact Kd.V_nil _ _ _ _ _ | exact Kd.Q_nil _ _ _ _ _ | exact Kd.S_nil _ _ _ _ _, by first | exact Kd.R_nil _ _ _ _ _ | exact Kd.N_nil _ _ _ _ _ | exact Kd.V_nil _ _ _ _ _ | exact Kd.Q_nil _ _ _ _ _ | exact Kd.S_nil _ _ _ _ _, by (with_reducible repeat (first | apply Kd.R_alloc | apply Kd.R_drewN | apply Kd.R_drew)); exact Kd.R_mono (Kd.R_far (p := ⟨gb187, 9, none⟩) (Kd.R_far (p := ⟨gb187, 8, none⟩) (Kd.R_far (p := ⟨gb187, 7, none⟩) (Kd.R_far (p := ⟨gb187, 6, none⟩) (Kd.R_far (p := ⟨gb187, 5, none⟩) (Kd.R_far (p := ⟨gb187, 4, none⟩) (Kd.R_far (p := ⟨gb187, 3, none⟩) (Kd.R_far (p := ⟨gb187, 2, none⟩) (Kd.R_far (p := ⟨gb187, 1, none⟩) (Kd.R_far (p := ⟨gb187, 0, none⟩) (Kd.R_types HO_189006.out BK187.out (by decide)) (fun _ hk => hk.2) (.int .u8 ((1 + (Int.tmod a0 7)) % 256))) (fun _ hk => hk.2) (.int .u32 0)) (fun _ hk => hk.2) (.int .u32 0)) (fun _ hk => hk.2) (.slice none 0 0)) (fun _ hk => hk.2) (.slice none 0 0)) (fun _ hk => hk.2) (.int .u32 a2)) (fun _ hk => hk.2) (.slice Ao53 x189006_2.length co53)) (fun _ hk => hk.2) (.int .i64 0)) (fun _ hk => hk.2) (.int .i64 0)) (fun _ hk => hk.2) (.slice none 0 0)) (fun _ hk => trivial), by first | exact Kd.R_nil _ _ _ _ _ | exact Kd.N_nil _ _ _ _ _ | exact Kd.V_nil _ _ _ _ _ | exact Kd.Q_nil _ _ _ _ _ | exact Kd.S_nil _ _ _ _ _, by repeat (first | (with_reducible first | exact HB.out | apply iG | apply iF | apply iJ | refine iH ?_ GE187.out | refine iH ?_ GE188.out) | exact HB.out)⟩
      ·rw [if_neg c35] at H
       have c35b0 : (((1 + (Int.tmod a0 7)) % 256) == 6) = false := beq_eq_false_iff_ne.mpr c35
       have c35b1 : (((1 + (Int.tmod a0 7)) % 256) != 6) = true := bne_iff_ne.mpr c35
       by_cases c54 : ((1 + (Int.tmod a0 7)) % 256) = 7
       ·rw [if_pos c54] at H
        have c54b0 : (((1 + (Int.tmod a0 7)) % 256) == 7) = true := beq_iff_eq.mpr c54
        have c54b1 : (((1 + (Int.tmod a0 7)) % 256) != 7) = false := bne_eq_false_iff_eq.mpr c54
        clear c54
        have H' := iC.mk H
        clear H
        have hnb55 := NB188_187.out
        have hnc55 := NB187_188.out
        have hcz56_0 : wr.cell? ⟨gb188, 0, none⟩ = some (.int .u8 ((1 + (Int.tmod a0 7)) % 256)) := (iE BK188.out 0).trans rfl
        have hcz56_1 : wr.cell? ⟨gb188, 1, none⟩ = some (.int .u32 a1) := (iE BK188.out 1).trans rfl
        have hcz56_2 : wr.cell? ⟨gb188, 2, none⟩ = some (.int .u32 0) := (iE BK188.out 2).trans rfl
        have hcz56_3 : wr.cell? ⟨gb188, 3, none⟩ = some (.slice none 0 0) := (iE BK188.out 3).trans rfl
        have hcz56_4 : wr.cell? ⟨gb188, 4, none⟩ = some (.slice none 0 0) := (iE BK188.out 4).trans rfl
        have hcz56_5 : wr.cell? ⟨gb188, 5, none⟩ = some (.int .u32 0) := (iE BK188.out 5).trans rfl
        have hcz56_6 : wr.cell? ⟨gb188, 6, none⟩ = some (.slice none 0 0) := (iE BK188.out 6).trans rfl
        have hcz56_7 : wr.cell? ⟨gb188, 7, none⟩ = some (.int .i64 0) := (iE BK188.out 7).trans rfl
        have hcz56_8 : wr.cell? ⟨gb188, 8, none⟩ = some (.int .i64 0) := (iE BK188.out 8).trans rfl
        have hcz56_9 : wr.cell? ⟨gb188, 9, none⟩ = some (.slice none 0 0) := (iE BK188.out 9).trans rfl
        have hfz56_0 := iD BK188.out 0
        have hfz56_1 := iD BK188.out 1
        have hfz56_2 := iD BK188.out 2
        have hfz56_3 := iD BK188.out 3
        have hfz56_4 := iD BK188.out 4
        have hfz56_5 := iD BK188.out 5
        have hfz56_6 := iD BK188.out 6
        have hfz56_7 := iD BK188.out 7
        have hfz56_8 := iD BK188.out 8
        have hfz56_9 := iD BK188.out 9
        go_wp2
        go_loopg [23, 24] k1 (fun kq v23 v24 w' => ∃ (x23_2 : Int) (x24_2 : Int) (x189009_2 : List (S86)) (u189009 : Value), v23 = .int .u32 x23_2 ∧ v24 = .int .i64 x24_2 ∧ iC (stratumlaw07_Make.l2 kq l8 x23_2 x24_2 ((1 + (Int.tmod a0 7)) % 256) a1 0 0 (Int.tmod (wrap64 (a6)) 10001) (Int.tmod (wrap64 (a7)) 10001) x189009_2 = some (r1, r2, r3, r4, r5, r6, r7, r8, r9, r10)) ∧ iC (kq ≤ k1) ∧ iC (Kd.R k86 86 w' w.heap.size (fun _ => True) u189009 x189009_2) ∧ iC (w'.heap[gb187]? = some (.cells #[.int .u8 0, .int .u32 0, .int .u32 0, (.slice none 0 0), (.slice none 0 0), .int .u32 0, (.slice none 0 0), .int .i64 0, .int .i64 0, (.slice none 0 0)] 30 (0, 0))) ∧ iC (w'.heap[gb188]? = some (.cells #[.int .u8 ((1 + (Int.tmod a0 7)) % 256), .int .u32 a1, .int .u32 0, (.slice none 0 0), (.slice none 0 0), .int .u32 0, (.slice none 0 0), .int .i64 (Int.tmod (wrap64 (a6)) 10001), .int .i64 (Int.tmod (wrap64 (a7)) 10001), u189009] 30 (0, 0))) ∧ iC (Below w.heap.size w w'))
        case atStart => exact ⟨(0), (0), (([] : List (S86))), (.slice none 0 0), (by first | rfl | (simp; done) | (simp [*]; done)), (by first | rfl | (simp; done) | (simp [*]; done)), H', ⟨Nat.le_refl _⟩, ⟨by first | exact Kd.R_nil _ _ _ _ _ | exact Kd.N_nil _ _ _ _ _ | exact Kd.V_nil _ _ _ _ _ | exact Kd.Q_nil _ _ _ _ _ | exact Kd.S_nil _ _ _ _ _⟩, ⟨by (with_reducible repeat (first | refine iL ?_ _ | refine iM ?_ | refine iI ?_ _)); refine jZ ?_ NB187_188.out _; (with_reducible repeat (first | refine iL ?_ _ | refine iM ?_ | refine iI ?_ _)); refine jZ ?_ NB187_188.out _; (with_reducible repeat (first | refine iL ?_ _ | refine iM ?_ | refine iI ?_ _)); exact BK187.out⟩, ⟨by (with_reducible repeat (first | refine iL ?_ _ | refine iM ?_ | refine iI ?_ _)); refine iY (cs := #[.int .u8 ((1 + (Int.tmod a0 7)) % 256), .int .u32 a1, .int .u32 0, .slice none 0 0, .slice none 0 0, .int .u32 0, .slice none 0 0, .int .i64 (Int.tmod (wrap64 (a6)) 10001), .int .i64 0, .slice none 0 0]) ?_ 8 _ rfl; (with_reducible repeat (first | refine iL ?_ _ | refine iM ?_ | refine iI ?_ _)); refine iY (cs := #[.int .u8 ((1 + (Int.tmod a0 7)) % 256), .int .u32 a1, .int .u32 0, .slice none 0 0, .slice none 0 0, .int .u32 0, .slice none 0 0, .int .i64 0, .int .i64 0, .slice none 0 0]) ?_ 7 _ rfl; (with_reducible repeat (first | refine iL ?_ _ | refine iM ?_ | refine iI ?_ _)); exact BK188.out⟩, ⟨by repeat (first | (with_reducible first | exact HB.out | apply iG | apply iF | apply iJ | refine iH ?_ GE187.out | refine iH ?_ GE188.out) | exact HB.out)⟩⟩
        case round =>
         clear H'
         try clear c1
         try clear p1
         try clear q1
         try clear hx1
         try clear c2
         try clear p2
         try clear c3
         try clear c4
         try clear c5
         try clear p6
         try clear c7
         try clear c8
         try clear c12
         try clear c14
         try clear c14b0
         try clear c16
         try clear c16b0
         try clear c16b1
         try clear c18
         try clear c18b0
         try clear c18b1
         try clear c19
         try clear p19
         try clear q19
         try clear hx19
         try clear c21
         try clear c21b0
         try clear c21b1
         try clear c23
         try clear c30
         try clear c30b0
         try clear c30b1
         try clear c31
         try clear c35
         try clear c35b0
         try clear c35b1
         try clear c36
         try clear c38
         try clear c38b0
         try clear c39
         try clear c39b0
         try clear c40
         try clear c40b0
         try clear c41
         try clear c46
         try clear c50
         try clear c54
         try clear c54b0
         try clear c54b1
         try clear c55
         try clear hcz13_0
         try clear hcz13_1
         try clear hcz13_2
         try clear hcz13_3
         try clear hcz13_4
         try clear hcz13_5
         try clear hcz13_6
         try clear hcz13_7
         try clear hcz13_8
         try clear hcz13_9
         try clear hcz24_0
         try clear hcz24_1
         try clear hcz24_2
         try clear hcz24_3
         try clear hcz24_4
         try clear hcz24_5
         try clear hcz24_6
         try clear hcz24_7
         try clear hcz24_8
         try clear hcz24_9
         try clear hcz28_0
         try clear hcz28_1
         try clear hcz28_2
         try clear hcz28_3
         try clear hcz28_4
         try clear hcz28_5
         try clear hcz28_6
         try clear hcz28_7
         try clear hcz28_8
         try clear hcz28_9
         try clear hcz29_0
         try clear hcz29_1
         try clear hcz29_2
         try clear hcz29_3
         try clear hcz29_4
         try clear hcz29_5
         try clear hcz29_6
         try clear hcz29_7
         try clear hcz29_8
         try clear hcz29_9
         try clear hcz32_0
         try clear hcz32_1
         try clear hcz32_2
         try clear hcz32_3
         try clear hcz32_4
         try clear hcz32_5
         try clear hcz32_6
         try clear hcz32_7
         try clear hcz32_8
         try clear hcz32_9
         try clear hcz34_0
         try clear hcz34_1
         try clear hcz34_2
         try clear hcz34_3
         try clear hcz34_4
         try clear hcz34_5
         try clear hcz34_6
         try clear hcz34_7
         try clear hcz34_8
         try clear hcz34_9
         try clear hcz37_0
         try clear hcz37_1
         try clear hcz37_2
         try clear hcz37_3
         try clear hcz37_4
         try clear hcz37_5
         try clear hcz37_6
         try clear hcz37_7
         try clear hcz37_8
         try clear hcz37_9
         try clear hcz47_0
         try clear hcz47_1
         try clear hcz47_2
         try clear hcz47_3
         try clear hcz47_4
         try clear hcz47_5
         try clear hcz47_6
         try clear hcz47_7
         try clear hcz47_8
         try clear hcz47_9
         try clear hcz48_0
         try clear hcz48_1
         try clear hcz48_2
         try clear hcz48_3
         try clear hcz48_4
         try clear hcz48_5
         try clear hcz48_6
         try clear hcz48_7
         try clear hcz48_8
         try clear hcz48_9
         try clear hcz51_0
         try clear hcz51_1
         try clear hcz51_2
         try clear hcz51_3
         try clear hcz51_4
         try clear hcz51_5
         try clear hcz51_6
         try clear hcz51_7
         try clear hcz51_8
         try clear hcz51_9
         try clear hcz52_0
         try clear hcz52_1
         try clear hcz52_2
         try clear hcz52_3
         try clear hcz52_4
         try clear hcz52_5
         try clear hcz52_6
         try clear hcz52_7
         try clear hcz52_8
         try clear hcz52_9
         try clear hcz56_0
         try clear hcz56_1
         try clear hcz56_2
         try clear hcz56_3
         try clear hcz56_4
         try clear hcz56_5
         try clear hcz56_6
         try clear hcz56_7
         try clear hcz56_8
         try clear hcz56_9
         try clear hfz13_0
         try clear hfz13_1
         try clear hfz13_2
         try clear hfz13_3
         try clear hfz13_4
         try clear hfz13_5
         try clear hfz13_6
         try clear hfz13_7
         try clear hfz13_8
         try clear hfz13_9
         try clear hfz24_0
         try clear hfz24_1
         try clear hfz24_2
         try clear hfz24_3
         try clear hfz24_4
         try clear hfz24_5
         try clear hfz24_6
         try clear hfz24_7
         try clear hfz24_8
         try clear hfz24_9
         try clear hfz28_0
         try clear hfz28_1
         try clear hfz28_2
         try clear hfz28_3
         try clear hfz28_4
         try clear hfz28_5
         try clear hfz28_6
         try clear hfz28_7
         try clear hfz28_8
         try clear hfz28_9
         try clear hfz29_0
         try clear hfz29_1
         try clear hfz29_2
         try clear hfz29_3
         try clear hfz29_4
         try clear hfz29_5
         try clear hfz29_6
         try clear hfz29_7
         try clear hfz29_8
         try clear hfz29_9
         try clear hfz32_0
         try clear hfz32_1
         try clear hfz32_2
         try clear hfz32_3
         try clear hfz32_4
         try clear hfz32_5
         try clear hfz32_6
         try clear hfz32_7
         try clear hfz32_8
         try clear hfz32_9
         try clear hfz34_0
         try clear hfz34_1
         try clear hfz34_2
         try clear hfz34_3
         try clear hfz34_4
         try clear hfz34_5
         try clear hfz34_6
         try clear hfz34_7
         try clear hfz34_8
         try clear hfz34_9
         try clear hfz37_0
         try clear hfz37_1
         try clear hfz37_2
         try clear hfz37_3
         try clear hfz37_4
         try clear hfz37_5
         try clear hfz37_6
         try clear hfz37_7
         try clear hfz37_8
         try clear hfz37_9
         try clear hfz47_0
         try clear hfz47_1
         try clear hfz47_2
         try clear hfz47_3
         try clear hfz47_4
         try clear hfz47_5
         try clear hfz47_6
         try clear hfz47_7
         try clear hfz47_8
         try clear hfz47_9
         try clear hfz48_0
         try clear hfz48_1
         try clear hfz48_2
         try clear hfz48_3
         try clear hfz48_4
         try clear hfz48_5
         try clear hfz48_6
         try clear hfz48_7
         try clear hfz48_8
         try clear hfz48_9
         try clear hfz51_0
         try clear hfz51_1
         try clear hfz51_2
         try clear hfz51_3
         try clear hfz51_4
         try clear hfz51_5
         try clear hfz51_6
         try clear hfz51_7
         try clear hfz51_8
         try clear hfz51_9
         try clear hfz52_0
         try clear hfz52_1
         try clear hfz52_2
         try clear hfz52_3
         try clear hfz52_4
         try clear hfz52_5
         try clear hfz52_6
         try clear hfz52_7
         try clear hfz52_8
         try clear hfz52_9
         try clear hfz56_0
         try clear hfz56_1
         try clear hfz56_2
         try clear hfz56_3
         try clear hfz56_4
         try clear hfz56_5
         try clear hfz56_6
         try clear hfz56_7
         try clear hfz56_8
         try clear hfz56_9
         try clear hx195_0
         try clear hx196_0
         try clear p195
         try clear p196
         try clear p2
         try clear p6
         try clear q195
         try clear q196
         obtain ⟨x23_2, x24_2, x189009_2, u189009, rfl, rfl, HA, HK2, HO_189009, BK187, BK188, HB⟩ := hrel
         cases gk with
         | zero => exact absurd HA.out (by simp [stratumlaw07_Make.l2])
         | succ k2 =>
          have H := HA.out
          clear HA
          simp only [stratumlaw07_Make.l2] at H
          by_cases c57 : x24_2 < (l8.length : Int)
          ·rw [if_pos c57] at H
           have c57b0 : decide (x24_2 < (l8.length : Int)) = true := decide_eq_true c57
           clear c57
           by_cases c58 : x24_2 < 50
           ·rw [if_pos c58] at H
            have c58b0 : decide (x24_2 < 50) = true := decide_eq_true c58
            clear c58
            by_cases c59 : 0 ≤ x24_2
            ·rw [if_pos c59] at H
             have c59b0 : decide (0 ≤ x24_2) = true := decide_eq_true c59
             clear c59
             replace H := Option.bind_eq_some_iff.mp H
             obtain ⟨t202, A600, H⟩ := H
             replace H : (if x189009_2.length < 4398046511104 then (stratumlaw07_Make.l2 k2 l8 ((x23_2 + (1 + (Int.tmod ((iU l8 x24_2).f0) 1000))) % 4294967296) (wrap64 (x24_2 + 1)) ((1 + (Int.tmod a0 7)) % 256) a1 0 0 (Int.tmod (wrap64 (a6)) 10001) (Int.tmod (wrap64 (a7)) 10001) (x189009_2 ++ [(⟨(x23_2 + (1 + (Int.tmod ((iU l8 x24_2).f0) 1000))) % 4294967296, t202⟩ : S86)])) else (none)) = some (r1, r2, r3, r4, r5, r6, r7, r8, r9, r10) := H
             have A60 := iC.mk A600
             clear A600
             by_cases c61 : x189009_2.length < 4398046511104
             ·rw [if_pos c61] at H
              have LMc61 := iC.mk c61
              clear c61
              obtain ⟨y205, hy205⟩ : ∃ y_ : List (S86), y_ = (x189009_2 ++ [(⟨(x23_2 + (1 + (Int.tmod ((iU l8 x24_2).f0) 1000))) % 4294967296, t202⟩ : S86)]) := ⟨_, rfl⟩
              replace H : (stratumlaw07_Make.l2 k2 l8 ((x23_2 + (1 + (Int.tmod ((iU l8 x24_2).f0) 1000))) % 4294967296) (wrap64 (x24_2 + 1)) ((1 + (Int.tmod a0 7)) % 256) a1 0 0 (Int.tmod (wrap64 (a6)) 10001) (Int.tmod (wrap64 (a7)) 10001) y205) = some (r1, r2, r3, r4, r5, r6, r7, r8, r9, r10) := by first | (rw [hy205]; with_reducible exact H) | (have H2_ := (Option.bind_some _ _).symm.trans H; rw [hy205]; with_reducible exact H2_) | (have H2_ := (Option.bind_some _ _).symm.trans H; with_reducible exact H2_) | with_reducible exact H | (rw [hy205]; exact H) | exact H
              have Ny205 := iC.mk hy205
              clear hy205
              have H' := iC.mk H
              clear H
              have p200 : 0 ≤ (x24_2 : Int) := of_decide_eq_true asm_
              have q200 : x24_2 < (l8.length : Int) := of_decide_eq_true asm_
              obtain ⟨ad200, A200_1, c200_1, e200, hx200_0, hx200_1, hl200_1, hi200_1⟩ := pJ HR8.out x24_2 p200 q200
              cases e200
              replace hx200_0 := (HB.out.cell (World.block_lt_of_cell? w _ hx200_0)).trans hx200_0
              replace hx200_1 := (HB.out.cell (World.block_lt_of_cell? w _ hx200_1)).trans hx200_1
              have HR200_1 := iC.mk hi200_1
              have HC200_1 := iC.mk hl200_1
              clear hi200_1 hl200_1
              replace p200 := eq_true p200
              replace q200 := eq_true q200
              try go_wp2
              have n0_ := iC.mk (Kd.R_drew HO_189009.out)
              have n1_ := iC.mk (iM BK187.out)
              have n2_ := iC.mk (iM BK188.out)
              have n3_ := iC.mk (iJ HB.out)
              clear HO_189009
              clear BK187
              clear BK188
              clear HB
              have HO_189009 := n0_
              have BK187 := n1_
              have BK188 := n2_
              have HB := n3_
              clear n0_ n1_ n2_ n3_
              have p201 : 0 ≤ (x24_2 : Int) := of_decide_eq_true asm_
              have q201 : x24_2 < (l8.length : Int) := of_decide_eq_true asm_
              obtain ⟨ad201, A201_1, c201_1, e201, hx201_0, hx201_1, hl201_1, hi201_1⟩ := pJ HR8.out x24_2 p201 q201
              have hw201_1 := hx201_1
              have hw201_0 := hx201_0
              obtain rfl : ad200 = ad201 := (by injection e201)
              replace hx201_0 := (HB.out.cell (World.block_lt_of_cell? w _ hx201_0)).trans hx201_0
              replace hx201_1 := (HB.out.cell (World.block_lt_of_cell? w _ hx201_1)).trans hx201_1
              have HR201_1 := iC.mk hi201_1
              have HC201_1 := iC.mk hl201_1
              clear hi201_1 hl201_1
              replace p201 := eq_true p201
              replace q201 := eq_true q201
              refine qY (n := 14) (S := fun w' => w'.cell? ⟨gb188, 0, none⟩ = some (.int .u8 ((1 + (Int.tmod a0 7)) % 256)) ∧ w'.cell? ⟨gb188, 1, none⟩ = some (.int .u32 a1) ∧ w'.cell? ⟨gb188, 2, none⟩ = some (.int .u32 0) ∧ w'.cell? ⟨gb188, 3, none⟩ = some (.slice none 0 0) ∧ w'.cell? ⟨gb188, 4, none⟩ = some (.slice none 0 0) ∧ w'.cell? ⟨gb188, 5, none⟩ = some (.int .u32 0) ∧ w'.cell? ⟨gb188, 6, none⟩ = some (.slice none 0 0) ∧ w'.cell? ⟨gb188, 7, none⟩ = some (.int .i64 (Int.tmod (wrap64 (a6)) 10001)) ∧ w'.cell? ⟨gb188, 8, none⟩ = some (.int .i64 (Int.tmod (wrap64 (a7)) 10001)) ∧ w'.cell? ⟨gb188, 9, none⟩ = some (u189009) ∧ w'.cell? (ad200.add ((x24_2).toNat * 2)) = some (.int .u32 ((iU l8 x24_2).f0)) ∧ w'.cell? ⟨(ad200.add ((x24_2).toNat * 2)).block, (ad200.add ((x24_2).toNat * 2)).off + 1, none⟩ = some (.slice A201_1 ((iU l8 x24_2).f1).length c201_1)) (ds := [13]) #[false, false, false, false, false, false, false, false, false, false, false, false, false, false] (by kernel_rfl) rfl rfl ⟨(iE BK188.out 0).trans rfl, (iE BK188.out 1).trans rfl, (iE BK188.out 2).trans rfl, (iE BK188.out 3).trans rfl, (iE BK188.out 4).trans rfl, (iE BK188.out 5).trans rfl, (iE BK188.out 6).trans rfl, (iE BK188.out 7).trans rfl, (iE BK188.out 8).trans rfl, (iE BK188.out 9).trans rfl, ((HB.out.cell (World.block_lt_of_cell? w _ hw201_0)).trans hw201_0), ((HB.out.cell (World.block_lt_of_cell? w _ hw201_1)).trans hw201_1)⟩ (fun hHeld => ?_); refine mZ stratumlaw07_Make.tab30 stratumlaw07_Make.bits30 (fun HT_ HW_ => ?_)
              generalize wr.drew = w62 at HO_189009 BK187 BK188 HB HR201_1 hx201_0 hx201_1 hHeld ⊢
              refine jL (i := 0) (N := some 124) (v := ?_) (a' := ?_) #[true, false, false, false, false, false, false, false, false, false, false, false, false, false] rfl rfl (jF HT_.out (by kernel_rfl)) (fun _ _ _ h => h) (Or.inl ⟨by rfl, ?_⟩) ?_ ?_
              rotate_left
              ·intro w'
               go_simp
               with_reducible rfl
              rotate_left
              ·simp only [Act.put, List.setIfInBounds_toArray, List.set_cons_zero, List.set_cons_succ, iR, jG]
               rfl
              refine jL (i := 2) (N := some 126) (v := ?_) (a' := ?_) #[true, false, true, false, false, false, false, false, false, false, false, false, false, false] rfl rfl (jF HT_.out (by kernel_rfl)) (fun _ _ _ h => h) (Or.inl ⟨by rfl, ?_⟩) ?_ ?_
              rotate_left
              ·intro w'
               go_simp
               with_reducible rfl
              rotate_left
              ·simp only [Act.put, List.setIfInBounds_toArray, List.set_cons_zero, List.set_cons_succ, iR, jG]
               rfl
              refine jL (i := 3) (N := some 127) (v := ?_) (a' := ?_) #[true, false, true, true, false, false, false, false, false, false, false, false, false, false] rfl rfl (jF HT_.out (by kernel_rfl)) (fun _ _ _ h => h) (Or.inl ⟨by rfl, ?_⟩) ?_ ?_
              rotate_left
              ·intro w'
               go_simp
               with_reducible rfl
              rotate_left
              ·simp only [Act.put, List.setIfInBounds_toArray, List.set_cons_zero, List.set_cons_succ, iR, jG]
               rfl
              refine jL (i := 4) (N := some 128) (v := ?_) (a' := ?_) #[true, false, true, true, true, false, false, false, false, false, false, false, false, false] rfl rfl (jF HT_.out (by kernel_rfl)) (fun _ _ _ h => h) (Or.inl ⟨by rfl, ?_⟩) ?_ ?_
              rotate_left
              ·intro w'
               go_simp
               with_reducible rfl
              rotate_left
              ·simp only [Act.put, List.setIfInBounds_toArray, List.set_cons_zero, List.set_cons_succ, iR, jG]
               rfl
              refine jL (i := 5) (N := some 129) (v := ?_) (a' := ?_) #[true, false, true, true, true, true, false, false, false, false, false, false, false, false] rfl rfl (jF HT_.out (by kernel_rfl)) (fun _ _ _ h => h) (Or.inl ⟨by rfl, ?_⟩) ?_ ?_
              rotate_left
              ·intro w'
               go_simp
               with_reducible rfl
              rotate_left
              ·simp only [Act.put, List.setIfInBounds_toArray, List.set_cons_zero, List.set_cons_succ, iR, jG]
               rfl
              refine jL (i := 6) (N := some 130) (v := ?_) (a' := ?_) #[true, false, true, true, true, true, true, false, false, false, false, false, false, false] rfl rfl (jF HT_.out (by kernel_rfl)) (fun _ _ _ h => h) (Or.inl ⟨by rfl, ?_⟩) ?_ ?_
              rotate_left
              ·intro w'
               go_simp
               with_reducible rfl
              rotate_left
              ·simp only [Act.put, List.setIfInBounds_toArray, List.set_cons_zero, List.set_cons_succ, iR, jG]
               rfl
              refine rW (i := 1) (N := some 125) (v := ?_) (a' := ?_) #[true, true, true, true, true, true, true, false, false, false, false, false, false, false] rfl rfl (lI HT_.out HW_.out (by kernel_rfl)) (fun _ _ _ h => h) (Or.inl ⟨by rfl, ?_⟩) hHeld ?_ ?_
              rotate_left
              ·rintro w' ⟨s0, s1, s2, s3, s4, s5, s6, s7, s8, s9, s10, s11⟩
               go_simp
               with_reducible rfl
              rotate_left
              ·simp only [Act.put, List.setIfInBounds_toArray, List.set_cons_zero, List.set_cons_succ, iR, jG]
               rfl
              refine rW (i := 7) (N := some 131) (v := ?_) (a' := ?_) #[true, true, true, true, true, true, true, true, false, false, false, false, false, false] rfl rfl (lI HT_.out HW_.out (by kernel_rfl)) (fun _ _ _ h => h) (Or.inl ⟨by rfl, ?_⟩) hHeld ?_ ?_
              rotate_left
              ·rintro w' ⟨s0, s1, s2, s3, s4, s5, s6, s7, s8, s9, s10, s11⟩
               go_simp
               with_reducible rfl
              rotate_left
              ·simp only [Act.put, List.setIfInBounds_toArray, List.set_cons_zero, List.set_cons_succ, iR, jG]
               rfl
              refine one_ (i := 8) (N := some 132) #[true, true, true, true, true, true, true, true, true, false, false, false, false, false] rfl rfl (lW HT_.out (by kernel_rfl)) (by decide) (fun K hK => ?_)
              refine qC Tryd.func73 (by kernel_rfl) rfl #[.slice A201_1 ((iU l8 x24_2).f1).length c201_1] (by rfl) rfl rfl (by (try simp only [List.map_toArray, List.map_cons, List.map_nil]); first | done | rfl | (simp only [List.length_drop, List.length_take]; rfl)) ?_
              with_reducible refine (stratumlaw07_Facts.calls k2 _ _ ((iU l8 x24_2).f1) t202 _ ?side1 ?side2 A60.out).mono ?_
              (case side1 => repeat (first | exact (Kd.C_below HR201_1.out HB.out) | (with_reducible refine Kd.C_alloc ?_ _) | (with_reducible refine Kd.C_drewN ?_ _) | (with_reducible refine Kd.C_drew ?_)))
              (case side2 => exact HC201_1.out)
              rintro e w63 ⟨v203, rfl, ho0, hb⟩
              refine ⟨_, rfl, ?_⟩
              have n0_ := iC.mk (Kd.R_elder' (by (with_reducible repeat (first | apply Kd.R_alloc | apply Kd.R_drewN | apply Kd.R_drew)); exact HO_189009.out) (Kd.R_base ho0) hb)
              have n1_ := iC.mk (Kd.R_lower ho0 (iQ (by repeat (first | (with_reducible first | exact HB.out | apply iG | apply iF | apply iJ | refine iH ?_ GE187.out | refine iH ?_ GE188.out) | exact HB.out))))
              have n2_ := iC.mk (jS (g := gb187) (o := .cells #[.int .u8 0, .int .u32 0, .int .u32 0, .slice none 0 0, .slice none 0 0, .int .u32 0, .slice none 0 0, .int .i64 0, .int .i64 0, .slice none 0 0] 30 (0, 0)) (bk_ BK187.out) hb)
              have n3_ := iC.mk (jS (g := gb188) (o := .cells #[.int .u8 ((1 + (Int.tmod a0 7)) % 256), .int .u32 a1, .int .u32 0, .slice none 0 0, .slice none 0 0, .int .u32 0, .slice none 0 0, .int .i64 (Int.tmod (wrap64 (a6)) 10001), .int .i64 (Int.tmod (wrap64 (a7)) 10001), u189009] 30 (0, 0)) (bk_ BK188.out) hb)
              have n4_ := iC.mk (iK (by repeat (first | (with_reducible first | exact HB.out | apply iG | apply iF | apply iJ | refine iH ?_ GE187.out | refine iH ?_ GE188.out) | exact HB.out)) hb)
              clear HO_189009
              clear BK187
              clear BK188
              clear HB
              have HO_189009 := n0_
              have HO204 := n1_
              have BK187 := n2_
              have BK188 := n3_
              have HB := n4_
              clear n0_ n1_ n2_ n3_ n4_
              (try clear hb)
              (try clear hb2)
              (try clear hk)
              (try clear hi)
              (try clear ho0)
              obtain ⟨Ao64, co64, eo64⟩ := Kd.R_slice HO204.out
              (first | subst eo64 | (injection eo64 with f1_ f2_ f3_; have f4_ := f1_.symm; have f5_ := f3_.symm; clear f1_ f2_ f3_; subst f4_; subst f5_))
              refine hK.out _ _ ⟨(iE BK188.out 0).trans rfl, (iE BK188.out 1).trans rfl, (iE BK188.out 2).trans rfl, (iE BK188.out 3).trans rfl, (iE BK188.out 4).trans rfl, (iE BK188.out 5).trans rfl, (iE BK188.out 6).trans rfl, (iE BK188.out 7).trans rfl, (iE BK188.out 8).trans rfl, (iE BK188.out 9).trans rfl, ((HB.out.cell (World.block_lt_of_cell? w _ hw201_0)).trans hw201_0), ((HB.out.cell (World.block_lt_of_cell? w _ hw201_1)).trans hw201_1)⟩ (fun hHeld => ?_)
              clear hK K
              refine lN (a' := ?_) ?_ ?_
              rotate_left
              ·show Act.put _ (some 132) _ = _
               simp only [Act.put, List.setIfInBounds_toArray, List.set_cons_zero, List.set_cons_succ, iR, jG]
               rfl
              refine jL (i := 9) (N := some 133) (v := ?_) (a' := ?_) #[true, true, true, true, true, true, true, true, true, true, false, false, false, false] rfl rfl (jF HT_.out (by kernel_rfl)) (fun _ _ _ h => h) (Or.inl ⟨by rfl, ?_⟩) ?_ ?_
              rotate_left
              ·intro w'
               go_simp
               with_reducible rfl
              rotate_left
              ·simp only [Act.put, List.setIfInBounds_toArray, List.set_cons_zero, List.set_cons_succ, iR, jG]
               rfl
              refine one_ (i := 10) (N := some 134) #[true, true, true, true, true, true, true, true, true, true, true, false, false, false] rfl rfl (lW HT_.out (by kernel_rfl)) (by decide) (fun K hK => ?_)
              refine jH (w1 := ?_) (v := ?_) (by rfl) rfl ?_ ?_
              rotate_left 2
              ·go_simp
               constructor
               ·rfl
               ·rfl
              refine hK.out _ _ ⟨(iE (iI BK188.out _) 0).trans rfl, (iE (iI BK188.out _) 1).trans rfl, (iE (iI BK188.out _) 2).trans rfl, (iE (iI BK188.out _) 3).trans rfl, (iE (iI BK188.out _) 4).trans rfl, (iE (iI BK188.out _) 5).trans rfl, (iE (iI BK188.out _) 6).trans rfl, (iE (iI BK188.out _) 7).trans rfl, (iE (iI BK188.out _) 8).trans rfl, (iE (iI BK188.out _) 9).trans rfl, (World.cell?_alloc_lt _ _ _ (World.block_lt_of_cell? _ _ (((HB.out.cell (World.block_lt_of_cell? w _ hw201_0)).trans hw201_0)))).trans (((HB.out.cell (World.block_lt_of_cell? w _ hw201_0)).trans hw201_0)), (World.cell?_alloc_lt _ _ _ (World.block_lt_of_cell? _ _ (((HB.out.cell (World.block_lt_of_cell? w _ hw201_1)).trans hw201_1)))).trans (((HB.out.cell (World.block_lt_of_cell? w _ hw201_1)).trans hw201_1))⟩ (fun hHeld => ?_)
              clear hK K
              refine lN (a' := ?_) ?_ ?_
              rotate_left
              ·show Act.put _ (some 134) _ = _
               simp only [Act.put, List.setIfInBounds_toArray, List.set_cons_zero, List.set_cons_succ, iR, jG]
               rfl
              refine one_ (i := 11) (N := some 135) #[true, true, true, true, true, true, true, true, true, true, true, true, false, false] rfl rfl (lW HT_.out (by kernel_rfl)) (by decide) (fun K hK => ?_)
              refine Kd.R_append_step k86 (w0 := w) w.heap.size (by rfl) (.tmp 125) (.tmp 134) 28 86 (.agg #[(.int .u32 0), (.slice none 0 0)]) 32 rfl Tryd.underlying28 Z9 rfl (by decide) (by omega) u189009 x189009_2 (⟨(x23_2 + (1 + (Int.tmod ((iU l8 x24_2).f0) 1000))) % 4294967296, t202⟩ : S86) [.int .u32 ((x23_2 + (1 + (Int.tmod ((iU l8 x24_2).f0) 1000))) % 4294967296), .slice Ao64 t202.length co64] (fun _ => True) (fun k_ => ((fun _ => True)) k_ ∧ some k_ ≠ (u189009 : Value).ownBlock) rfl rfl ?aP (fun _ hk => hk) ?aF ?aO ?aB ?aS ?aL ?_
              (case aP => exact VQ _ _ _ (⟨(x23_2 + (1 + (Int.tmod ((iU l8 x24_2).f0) 1000))) % 4294967296, t202⟩ : S86) (Kd.R_mono (Kd.R_apart' (HO204.out) (Kd.R_typed HO_189009.out) (by decide)) (fun k_ hk => ⟨trivial, hk.2⟩)))
              (case aB => exact (by repeat (first | (with_reducible first | exact HB.out | apply iG | apply iF | apply iJ | refine iH ?_ GE187.out | refine iH ?_ GE188.out) | exact HB.out)))
              (case aF => exact (fun _ _ => trivial))
              (case aO => exact (by (with_reducible repeat (first | apply Kd.R_alloc | apply Kd.R_drewN | apply Kd.R_drew)); exact Kd.R_mono HO_189009.out (fun _ hk => trivial)))
              (case aS => exact (iQ (by repeat (first | (with_reducible first | exact HB.out | apply iG | apply iF | apply iJ | refine iH ?_ GE187.out | refine iH ?_ GE188.out) | exact HB.out))))
              (case aL => have := LMc61.out; omega)
              intro v206 w65 ho hb hg hat
              rw [← Ny205.out] at ho
              have n0_ := iC.mk (nD (g := gb187) (o := .cells #[.int .u8 0, .int .u32 0, .int .u32 0, .slice none 0 0, .slice none 0 0, .int .u32 0, .slice none 0 0, .int .i64 0, .int .i64 0, .slice none 0 0] 30 (0, 0)) (bk_ BK187.out) hg (Kd.R_ne HO_189009.out BK187.out (by decide)))
              have n1_ := iC.mk (nD (g := gb188) (o := .cells #[.int .u8 ((1 + (Int.tmod a0 7)) % 256), .int .u32 a1, .int .u32 0, .slice none 0 0, .slice none 0 0, .int .u32 0, .slice none 0 0, .int .i64 (Int.tmod (wrap64 (a6)) 10001), .int .i64 (Int.tmod (wrap64 (a7)) 10001), u189009] 30 (0, 0)) (bk_ BK188.out) hg (Kd.R_ne HO_189009.out BK188.out (by decide)))
              have n2_ := iC.mk (hb)
              have n3_ := iC.mk (ho)
              clear BK187
              clear BK188
              clear HB
              clear HO_189009
              clear HO204
              have BK187 := n0_
              have BK188 := n1_
              have HB := n2_
              have HO207 := n3_
              clear n0_ n1_ n2_ n3_
              clear ho hb hg hat
              obtain ⟨Ao66, co66, eo66⟩ := Kd.R_slice HO207.out
              (first | subst eo66 | (injection eo66 with f1_ f2_ f3_; have f4_ := f1_.symm; have f5_ := f3_.symm; clear f1_ f2_ f3_; subst f4_; subst f5_))
              refine hK.out _ _ ⟨(iE BK188.out 0).trans rfl, (iE BK188.out 1).trans rfl, (iE BK188.out 2).trans rfl, (iE BK188.out 3).trans rfl, (iE BK188.out 4).trans rfl, (iE BK188.out 5).trans rfl, (iE BK188.out 6).trans rfl, (iE BK188.out 7).trans rfl, (iE BK188.out 8).trans rfl, (iE BK188.out 9).trans rfl, ((HB.out.cell (World.block_lt_of_cell? w _ hw201_0)).trans hw201_0), ((HB.out.cell (World.block_lt_of_cell? w _ hw201_1)).trans hw201_1)⟩ (fun hHeld => ?_)
              clear hK K
              refine lN (a' := ?_) ?_ ?_
              rotate_left
              ·show Act.put _ (some 135) _ = _
               simp only [Act.put, List.setIfInBounds_toArray, List.set_cons_zero, List.set_cons_succ, iR, jG]
               rfl
              refine jL (i := 12) (N := some 136) (v := ?_) (a' := ?_) #[true, true, true, true, true, true, true, true, true, true, true, true, true, false] rfl rfl (jF HT_.out (by kernel_rfl)) (fun _ _ _ h => h) (Or.inl ⟨by rfl, ?_⟩) ?_ ?_
              rotate_left
              ·intro w'
               go_simp
               with_reducible rfl
              rotate_left
              ·simp only [Act.put, List.setIfInBounds_toArray, List.set_cons_zero, List.set_cons_succ, iR, jG]
               rfl
              refine j1_ (i := 13) (N := none) #[true, true, true, true, true, true, true, true, true, true, true, true, true, true] rfl rfl (lW HT_.out (by kernel_rfl)) (by decide) (fun K hK => ?_)
              have hs67 : w65.cell? ⟨gb188, 9, none⟩ = some (u189009) := (iE BK188.out 9).trans rfl
              have hfs67 := iD BK188.out 9
              have hns67_0 := NB187_188.out
              have hms67_0 := NB188_187.out
              refine WQ (w1 := ?_) (by rfl) rfl ?_ ?_
              rotate_left
              ·go_simp
               rfl
              refine hK.out _ _ ?_
              clear hK K
              refine JA (qG HT_.out (by kernel_rfl)) ?_
              try go_wp2
              go_roundg k2
              case measure => have := HK1.out; have := HK2.out; omega
              case rel => exact ⟨((x23_2 + (1 + (Int.tmod ((iU l8 x24_2).f0) 1000))) % 4294967296), (wrap64 (x24_2 + 1)), (y205), (.slice Ao66 y205.length co66), (by first | rfl | (simp; done) | (simp [*]; done)), (by first | rfl | (simp; done) | (simp [*]; done)), H', ⟨by have := HK1.out; have := HK2.out; omega⟩, ⟨by (with_reducible repeat (first | apply Kd.R_alloc | apply Kd.R_drewN | apply Kd.R_drew)); exact Kd.R_mono (Kd.R_far (p := ⟨gb188, 9, none⟩) (Kd.R_types HO207.out BK188.out (by decide)) (fun _ hk => hk.2) (.slice Ao66 y205.length co66)) (fun _ hk => trivial)⟩, ⟨by (with_reducible repeat (first | refine iL ?_ _ | refine iM ?_ | refine iI ?_ _)); refine jZ ?_ NB187_188.out _; (with_reducible repeat (first | refine iL ?_ _ | refine iM ?_ | refine iI ?_ _)); exact BK187.out⟩, ⟨by (with_reducible repeat (first | refine iL ?_ _ | refine iM ?_ | refine iI ?_ _)); refine iY (cs := #[.int .u8 ((1 + (Int.tmod a0 7)) % 256), .int .u32 a1, .int .u32 0, .slice none 0 0, .slice none 0 0, .int .u32 0, .slice none 0 0, .int .i64 (Int.tmod (wrap64 (a6)) 10001), .int .i64 (Int.tmod (wrap64 (a7)) 10001), u189009]) ?_ 9 _ rfl; (with_reducible repeat (first | refine iL ?_ _ | refine iM ?_ | refine iI ?_ _)); exact BK188.out⟩, ⟨by repeat (first | (with_reducible first | exact HB.out | apply iG | apply iF | apply iJ | refine iH ?_ GE187.out | refine iH ?_ GE188.out) | exact HB.out)⟩⟩
             ·rw [if_neg c61] at H
              exact absurd H (by simp)
            ·rw [if_neg c59] at H
             exact absurd H (by simp)
           ·rw [if_neg c58] at H
            have c58b0 : decide (x24_2 < 50) = false := decide_eq_false c58
            clear c58
            simp only [Option.some.injEq, Prod.mk.injEq] at H
            obtain ⟨rfl, rfl, rfl, rfl, rfl, rfl, rfl, rfl, rfl, rfl⟩ := H
            have hnb68 := NB188_187.out
            have hnc68 := NB187_188.out
            have hcz69_0 : wr.cell? ⟨gb188, 0, none⟩ = some (.int .u8 ((1 + (Int.tmod a0 7)) % 256)) := (iE BK188.out 0).trans rfl
            have hcz69_1 : wr.cell? ⟨gb188, 1, none⟩ = some (.int .u32 a1) := (iE BK188.out 1).trans rfl
            have hcz69_2 : wr.cell? ⟨gb188, 2, none⟩ = some (.int .u32 0) := (iE BK188.out 2).trans rfl
            have hcz69_3 : wr.cell? ⟨gb188, 3, none⟩ = some (.slice none 0 0) := (iE BK188.out 3).trans rfl
            have hcz69_4 : wr.cell? ⟨gb188, 4, none⟩ = some (.slice none 0 0) := (iE BK188.out 4).trans rfl
            have hcz69_5 : wr.cell? ⟨gb188, 5, none⟩ = some (.int .u32 0) := (iE BK188.out 5).trans rfl
            have hcz69_6 : wr.cell? ⟨gb188, 6, none⟩ = some (.slice none 0 0) := (iE BK188.out 6).trans rfl
            have hcz69_7 : wr.cell? ⟨gb188, 7, none⟩ = some (.int .i64 (Int.tmod (wrap64 (a6)) 10001)) := (iE BK188.out 7).trans rfl
            have hcz69_8 : wr.cell? ⟨gb188, 8, none⟩ = some (.int .i64 (Int.tmod (wrap64 (a7)) 10001)) := (iE BK188.out 8).trans rfl
            have hcz69_9 : wr.cell? ⟨gb188, 9, none⟩ = some (u189009) := (iE BK188.out 9).trans rfl
            have hfz69_0 := iD BK188.out 0
            have hfz69_1 := iD BK188.out 1
            have hfz69_2 := iD BK188.out 2
            have hfz69_3 := iD BK188.out 3
            have hfz69_4 := iD BK188.out 4
            have hfz69_5 := iD BK188.out 5
            have hfz69_6 := iD BK188.out 6
            have hfz69_7 := iD BK188.out 7
            have hfz69_8 := iD BK188.out 8
            have hfz69_9 := iD BK188.out 9
            have hcz70_0 : wr.cell? ⟨gb187, 0, none⟩ = some (.int .u8 0) := (iE BK187.out 0).trans rfl
            have hcz70_1 : wr.cell? ⟨gb187, 1, none⟩ = some (.int .u32 0) := (iE BK187.out 1).trans rfl
            have hcz70_2 : wr.cell? ⟨gb187, 2, none⟩ = some (.int .u32 0) := (iE BK187.out 2).trans rfl
            have hcz70_3 : wr.cell? ⟨gb187, 3, none⟩ = some (.slice none 0 0) := (iE BK187.out 3).trans rfl
            have hcz70_4 : wr.cell? ⟨gb187, 4, none⟩ = some (.slice none 0 0) := (iE BK187.out 4).trans rfl
            have hcz70_5 : wr.cell? ⟨gb187, 5, none⟩ = some (.int .u32 0) := (iE BK187.out 5).trans rfl
            have hcz70_6 : wr.cell? ⟨gb187, 6, none⟩ = some (.slice none 0 0) := (iE BK187.out 6).trans rfl
            have hcz70_7 : wr.cell? ⟨gb187, 7, none⟩ = some (.int .i64 0) := (iE BK187.out 7).trans rfl
            have hcz70_8 : wr.cell? ⟨gb187, 8, none⟩ = some (.int .i64 0) := (iE BK187.out 8).trans rfl
            have hcz70_9 : wr.cell? ⟨gb187, 9, none⟩ = some (.slice none 0 0) := (iE BK187.out 9).trans rfl
            have hfz70_0 := iD BK187.out 0
            have hfz70_1 := iD BK187.out 1
            have hfz70_2 := iD BK187.out 2
            have hfz70_3 := iD BK187.out 3
            have hfz70_4 := iD BK187.out 4
            have hfz70_5 := iD BK187.out 5
            have hfz70_6 := iD BK187.out 6
            have hfz70_7 := iD BK187.out 7
            have hfz70_8 := iD BK187.out 8
            have hfz70_9 := iD BK187.out 9
            obtain ⟨Ao71, co71, eo71⟩ := Kd.R_slice HO_189009.out
            subst eo71
            go_wp2
            refine bodyPost_ret (results_cell_row rfl _ _ gb187 30 #[.int .u8 ((1 + (Int.tmod a0 7)) % 256), .int .u32 a1, .int .u32 0, .slice none 0 0, .slice none 0 0, .int .u32 0, .slice none 0 0, .int .i64 (Int.tmod (wrap64 (a6)) 10001), .int .i64 (Int.tmod (wrap64 (a7)) 10001), .slice Ao71 x189009_2.length co71] (0, 0) _ rfl (by (with_reducible repeat (first | refine iL ?_ _ | refine iM ?_ | refine iI ?_ _)); refine iY (cs := #[.int .u8 ((1 + (Int.tmod a0 7)) % 256), .int .u32 a1, .int .u32 0, .slice none 0 0, .slice none 0 0, .int .u32 0, .slice none 0 0, .int .i64 (Int.tmod (wrap64 (a6)) 10001), .int .i64 (Int.tmod (wrap64 (a7)) 10001), .slice none 0 0]) ?_ 9 _ rfl; (with_reducible repeat (first | refine iL ?_ _ | refine iM ?_ | refine iI ?_ _)); refine iY (cs := #[.int .u8 ((1 + (Int.tmod a0 7)) % 256), .int .u32 a1, .int .u32 0, .slice none 0 0, .slice none 0 0, .int .u32 0, .slice none 0 0, .int .i64 (Int.tmod (wrap64 (a6)) 10001), .int .i64 0, .slice none 0 0]) ?_ 8 _ rfl; (with_reducible repeat (first | refine iL ?_ _ | refine iM ?_ | refine iI ?_ _)); refine iY (cs := #[.int .u8 ((1 + (Int.tmod a0 7)) % 256), .int .u32 a1, .int .u32 0, .slice none 0 0, .slice none 0 0, .int .u32 0, .slice none 0 0, .int .i64 0, .int .i64 0, .slice none 0 0]) ?_ 7 _ rfl; (with_reducible repeat (first | refine iL ?_ _ | refine iM ?_ | refine iI ?_ _)); refine iY (cs := #[.int .u8 ((1 + (Int.tmod a0 7)) % 256), .int .u32 a1, .int .u32 0, .slice none 0 0, .slice none 0 0, .int .u32 0, .slice none 0 0, .int .i64 0, .int .i64 0, .slice none 0 0]) ?_ 6 _ rfl; (with_reducible repeat (first | refine iL ?_ _ | refine iM ?_ | refine iI ?_ _)); refine iY (cs := #[.int .u8 ((1 + (Int.tmod a0 7)) % 256), .int .u32 a1, .int .u32 0, .slice none 0 0, .slice none 0 0, .int .u32 0, .slice none 0 0, .int .i64 0, .int .i64 0, .slice none 0 0]) ?_ 5 _ rfl; (with_reducible repeat (first | refine iL ?_ _ | refine iM ?_ | refine iI ?_ _)); refine iY (cs := #[.int .u8 ((1 + (Int.tmod a0 7)) % 256), .int .u32 a1, .int .u32 0, .slice none 0 0, .slice none 0 0, .int .u32 0, .slice none 0 0, .int .i64 0, .int .i64 0, .slice none 0 0]) ?_ 4 _ rfl; (with_reducible repeat (first | refine iL ?_ _ | refine iM ?_ | refine iI ?_ _)); refine iY (cs := #[.int .u8 ((1 + (Int.tmod a0 7)) % 256), .int .u32 a1, .int .u32 0, .slice none 0 0, .slice none 0 0, .int .u32 0, .slice none 0 0, .int .i64 0, .int .i64 0, .slice none 0 0]) ?_ 3 _ rfl; (with_reducible repeat (first | refine iL ?_ _ | refine iM ?_ | refine iI ?_ _)); refine iY (cs := #[.int .u8 ((1 + (Int.tmod a0 7)) % 256), .int .u32 a1, .int .u32 0, .slice none 0 0, .slice none 0 0, .int .u32 0, .slice none 0 0, .int .i64 0, .int .i64 0, .slice none 0 0]) ?_ 2 _ rfl; (with_reducible repeat (first | refine iL ?_ _ | refine iM ?_ | refine iI ?_ _)); refine iY (cs := #[.int .u8 ((1 + (Int.tmod a0 7)) % 256), .int .u32 0, .int .u32 0, .slice none 0 0, .slice none 0 0, .int .u32 0, .slice none 0 0, .int .i64 0, .int .i64 0, .slice none 0 0]) ?_ 1 _ rfl; (with_reducible repeat (first | refine iL ?_ _ | refine iM ?_ | refine iI ?_ _)); refine iY (cs := #[.int .u8 0, .int .u32 0, .int .u32 0, .slice none 0 0, .slice none 0 0, .int .u32 0, .slice none 0 0, .int .i64 0, .int .i64 0, .slice none 0 0]) ?_ 0 _ rfl; (with_reducible repeat (first | refine iL ?_ _ | refine iM ?_ | refine iI ?_ _)); exact BK187.out) Tryd.underlying30 rfl (by kernel_rfl)) rfl ?_
            exact ⟨_, _, _, _, by first | rfl | (simp [iW, iV] <;> rfl) | (simp [*, iW, iV] <;> rfl), by first | exact Kd.R_nil _ _ _ _ _ | exact Kd.N_nil _ _ _ _ _ | exact Kd.V_nil _ _ _ _ _ | exact Kd.Q_nil _ _ _ _ _ | exact Kd.S_nil _ _ _ _ _, by first | exact Kd.R_nil _ _ _ _ _ | exact Kd.N_nil _ _ _ _ _ | exact Kd.V_nil _ _ _ _ _ | exact Kd.Q_nil _ _ _ _ _ | exact Kd.S_nil _ _ _ _ _, by first | exact Kd.R_nil _ _ _ _ _ | exact Kd.N_nil _ _ _ _ _ | exact Kd.V_nil _ _ _ _ _ | exact Kd.Q_nil _ _ _ _ _ | exact Kd.S_nil _ _ _ _ _, by (with_reducible repeat (first | apply Kd.R_alloc | apply Kd.R_drewN | apply Kd.R_drew)); exact Kd.R_mono (Kd.R_far (p := ⟨gb187, 9, none⟩) (Kd.R_far (p := ⟨gb187, 8, none⟩) (Kd.R_far (p := ⟨gb187, 7, none⟩) (Kd.R_far (p := ⟨gb187, 6, none⟩) (Kd.R_far (p := ⟨gb187, 5, none⟩) (Kd.R_far (p := ⟨gb187, 4, none⟩) (Kd.R_far (p := ⟨gb187, 3, none⟩) (Kd.R_far (p := ⟨gb187, 2, none⟩) (Kd.R_far (p := ⟨gb187, 1, none⟩) (Kd.R_far (p := ⟨gb187, 0, none⟩) (Kd.R_types HO_189009.out BK187.out (by decide)) (fun _ hk => hk.2) (.int .u8 ((1 + (Int.tmod a0 7)) % 256))) (fun _ hk => hk.2) (.int .u32 a1)) (fun _ hk => hk.2) (.int .u32 0)) (fun _ hk => hk.2) (.slice none 0 0)) (fun _ hk => hk.2) (.slice none 0 0)) (fun _ hk => hk.2) (.int .u32 0)) (fun _ hk => hk.2) (.slice none 0 0)) (fun _ hk => hk.2) (.int .i64 (Int.tmod (wrap64 (a6)) 10001))) (fun _ hk => hk.2) (.int .i64 (Int.tmod (wrap64 (a7)) 10001))) (fun _ hk => hk.2) (.slice Ao71 x189009_2.length co71)) (fun _ hk => ⟨(by simp [Value.ownBlock]), (by simp [Value.ownBlock])⟩), by repeat (first | (with_reducible first | exact HB.out | apply iG | apply iF | apply iJ | refine iH ?_ GE187.out | refine iH ?_ GE188.out) | exact HB.out)⟩
          ·rw [if_neg c57] at H
           have c57b0 : decide (x24_2 < (l8.length : Int)) = false := decide_eq_false c57
           clear c57
           simp only [Option.some.injEq, Prod.mk.injEq] at H
           obtain ⟨rfl, rfl, rfl, rfl, rfl, rfl, rfl, rfl, rfl, rfl⟩ := H
           have hnb72 := NB188_187.out
           have hnc72 := NB187_188.out
           have hcz73_0 : wr.cell? ⟨gb188, 0, none⟩ = some (.int .u8 ((1 + (Int.tmod a0 7)) % 256)) := (iE BK188.out 0).trans rfl
           have hcz73_1 : wr.cell? ⟨gb188, 1, none⟩ = some (.int .u32 a1) := (iE BK188.out 1).trans rfl
           have hcz73_2 : wr.cell? ⟨gb188, 2, none⟩ = some (.int .u32 0) := (iE BK188.out 2).trans rfl
           have hcz73_3 : wr.cell? ⟨gb188, 3, none⟩ = some (.slice none 0 0) := (iE BK188.out 3).trans rfl
           have hcz73_4 : wr.cell? ⟨gb188, 4, none⟩ = some (.slice none 0 0) := (iE BK188.out 4).trans rfl
           have hcz73_5 : wr.cell? ⟨gb188, 5, none⟩ = some (.int .u32 0) := (iE BK188.out 5).trans rfl
           have hcz73_6 : wr.cell? ⟨gb188, 6, none⟩ = some (.slice none 0 0) := (iE BK188.out 6).trans rfl
           have hcz73_7 : wr.cell? ⟨gb188, 7, none⟩ = some (.int .i64 (Int.tmod (wrap64 (a6)) 10001)) := (iE BK188.out 7).trans rfl
           have hcz73_8 : wr.cell? ⟨gb188, 8, none⟩ = some (.int .i64 (Int.tmod (wrap64 (a7)) 10001)) := (iE BK188.out 8).trans rfl
           have hcz73_9 : wr.cell? ⟨gb188, 9, none⟩ = some (u189009) := (iE BK188.out 9).trans rfl
           have hfz73_0 := iD BK188.out 0
           have hfz73_1 := iD BK188.out 1
           have hfz73_2 := iD BK188.out 2
           have hfz73_3 := iD BK188.out 3
           have hfz73_4 := iD BK188.out 4
           have hfz73_5 := iD BK188.out 5
           have hfz73_6 := iD BK188.out 6
           have hfz73_7 := iD BK188.out 7
           have hfz73_8 := iD BK188.out 8
           have hfz73_9 := iD BK188.out 9
           have hcz74_0 : wr.cell? ⟨gb187, 0, none⟩ = some (.int .u8 0) := (iE BK187.out 0).trans rfl
           have hcz74_1 : wr.cell? ⟨gb187, 1, none⟩ = some (.int .u32 0) := (iE BK187.out 1).trans rfl
           have hcz74_2 : wr.cell? ⟨gb187, 2, none⟩ = some (.int .u32 0) := (iE BK187.out 2).trans rfl
           have hcz74_3 : wr.cell? ⟨gb187, 3, none⟩ = some (.slice none 0 0) := (iE BK187.out 3).trans rfl
           have hcz74_4 : wr.cell? ⟨gb187, 4, none⟩ = some (.slice none 0 0) := (iE BK187.out 4).trans rfl
           have hcz74_5 : wr.cell? ⟨gb187, 5, none⟩ = some (.int .u32 0) := (iE BK187.out 5).trans rfl
           have hcz74_6 : wr.cell? ⟨gb187, 6, none⟩ = some (.slice none 0 0) := (iE BK187.out 6).trans rfl
           have hcz74_7 : wr.cell? ⟨gb187, 7, none⟩ = some (.int .i64 0) := (iE BK187.out 7).trans rfl
           have hcz74_8 : wr.cell? ⟨gb187, 8, none⟩ = some (.int .i64 0) := (iE BK187.out 8).trans rfl
           have hcz74_9 : wr.cell? ⟨gb187, 9, none⟩ = some (.slice none 0 0) := (iE BK187.out 9).trans rfl
           have hfz74_0 := iD BK187.out 0
           have hfz74_1 := iD BK187.out 1
           have hfz74_2 := iD BK187.out 2
           have hfz74_3 := iD BK187.out 3
           have hfz74_4 := iD BK187.out 4
           have hfz74_5 := iD BK187.out 5
           have hfz74_6 := iD BK187.out 6
           have hfz74_7 := iD BK187.out 7
           have hfz74_8 := iD BK187.out 8
           have hfz74_9 := iD BK187.out 9
           obtain ⟨Ao75, co75, eo75⟩ := Kd.R_slice HO_189009.out
           subst eo75
           go_wp2
           refine bodyPost_ret (results_cell_row rfl _ _ gb187 30 #[.int .u8 ((1 + (Int.tmod a0 7)) % 256), .int .u32 a1, .int .u32 0, .slice none 0 0, .slice none 0 0, .int .u32 0, .slice none 0 0, .int .i64 (Int.tmod (wrap64 (a6)) 10001), .int .i64 (Int.tmod (wrap64 (a7)) 10001), .slice Ao75 x189009_2.length co75] (0, 0) _ rfl (by (with_reducible repeat (first | refine iL ?_ _ | refine iM ?_ | refine iI ?_ _)); refine iY (cs := #[.int .u8 ((1 + (Int.tmod a0 7)) % 256), .int .u32 a1, .int .u32 0, .slice none 0 0, .slice none 0 0, .int .u32 0, .slice none 0 0, .int .i64 (Int.tmod (wrap64 (a6)) 10001), .int .i64 (Int.tmod (wrap64 (a7)) 10001), .slice none 0 0]) ?_ 9 _ rfl; (with_reducible repeat (first | refine iL ?_ _ | refine iM ?_ | refine iI ?_ _)); refine iY (cs := #[.int .u8 ((1 + (Int.tmod a0 7)) % 256), .int .u32 a1, .int .u32 0, .slice none 0 0, .slice none 0 0, .int .u32 0, .slice none 0 0, .int .i64 (Int.tmod (wrap64 (a6)) 10001), .int .i64 0, .slice none 0 0]) ?_ 8 _ rfl; (with_reducible repeat (first | refine iL ?_ _ | refine iM ?_ | refine iI ?_ _)); refine iY (cs := #[.int .u8 ((1 + (Int.tmod a0 7)) % 256), .int .u32 a1, .int .u32 0, .slice none 0 0, .slice none 0 0, .int .u32 0, .slice none 0 0, .int .i64 0, .int .i64 0, .slice none 0 0]) ?_ 7 _ rfl; (with_reducible repeat (first | refine iL ?_ _ | refine iM ?_ | refine iI ?_ _)); refine iY (cs := #[.int .u8 ((1 + (Int.tmod a0 7)) % 256), .int .u32 a1, .int .u32 0, .slice none 0 0, .slice none 0 0, .int .u32 0, .slice none 0 0, .int .i64 0, .int .i64 0, .slice none 0 0]) ?_ 6 _ rfl; (with_reducible repeat (first | refine iL ?_ _ | refine iM ?_ | refine iI ?_ _)); refine iY (cs := #[.int .u8 ((1 + (Int.tmod a0 7)) % 256), .int .u32 a1, .int .u32 0, .slice none 0 0, .slice none 0 0, .int .u32 0, .slice none 0 0, .int .i64 0, .int .i64 0, .slice none 0 0]) ?_ 5 _ rfl; (with_reducible repeat (first | refine iL ?_ _ | refine iM ?_ | refine iI ?_ _)); refine iY (cs := #[.int .u8 ((1 + (Int.tmod a0 7)) % 256), .int .u32 a1, .int .u32 0, .slice none 0 0, .slice none 0 0, .int .u32 0, .slice none 0 0, .int .i64 0, .int .i64 0, .slice none 0 0]) ?_ 4 _ rfl; (with_reducible repeat (first | refine iL ?_ _ | refine iM ?_ | refine iI ?_ _)); refine iY (cs := #[.int .u8 ((1 + (Int.tmod a0 7)) % 256), .int .u32 a1, .int .u32 0, .slice none 0 0, .slice none 0 0, .int .u32 0, .slice none 0 0, .int .i64 0, .int .i64 0, .slice none 0 0]) ?_ 3 _ rfl; (with_reducible repeat (first | refine iL ?_ _ | refine iM ?_ | refine iI ?_ _)); refine iY (cs := #[.int .u8 ((1 + (Int.tmod a0 7)) % 256), .int .u32 a1, .int .u32 0, .slice none 0 0, .slice none 0 0, .int .u32 0, .slice none 0 0, .int .i64 0, .int .i64 0, .slice none 0 0]) ?_ 2 _ rfl; (with_reducible repeat (first | refine iL ?_ _ | refine iM ?_ | refine iI ?_ _)); refine iY (cs := #[.int .u8 ((1 + (Int.tmod a0 7)) % 256), .int .u32 0, .int .u32 0, .slice none 0 0, .slice none 0 0, .int .u32 0, .slice none 0 0, .int .i64 0, .int .i64 0, .slice none 0 0]) ?_ 1 _ rfl; (with_reducible repeat (first | refine iL ?_ _ | refine iM ?_ | refine iI ?_ _)); refine iY (cs := #[.int .u8 0, .int .u32 0, .int .u32 0, .slice none 0 0, .slice none 0 0, .int .u32 0, .slice none 0 0, .int .i64 0, .int .i64 0, .slice none 0 0]) ?_ 0 _ rfl; (with_reducible repeat (first | refine iL ?_ _ | refine iM ?_ | refine iI ?_ _)); exact BK187.out) Tryd.underlying30 rfl (by kernel_rfl)) rfl ?_
           exact ⟨_, _, _, _, by first | rfl | (simp [iW, iV] <;> rfl) | (simp [*, iW, iV] <;> rfl), by first | exact Kd.R_nil _ _ _ _ _ | exact Kd.N_nil _ _ _ _ _ | exact Kd.V_nil _ _ _ _ _ | exact Kd.Q_nil _ _ _ _ _ | exact Kd.S_nil _ _ _ _ _, by first | exact Kd.R_nil _ _ _ _ _ | exact Kd.N_nil _ _ _ _ _ | exact Kd.V_nil _ _ _ _ _ | exact Kd.Q_nil _ _ _ _ _ | exact Kd.S_nil _ _ _ _ _, by first | exact Kd.R_nil _ _ _ _ _ | exact Kd.N_nil _ _ _ _ _ | exact Kd.V_nil _ _ _ _ _ | exact Kd.Q_nil _ _ _ _ _ | exact Kd.S_nil _ _ _ _ _, by (with_reducible repeat (first | apply Kd.R_alloc | apply Kd.R_drewN | apply Kd.R_drew)); exact Kd.R_mono (Kd.R_far (p := ⟨gb187, 9, none⟩) (Kd.R_far (p := ⟨gb187, 8, none⟩) (Kd.R_far (p := ⟨gb187, 7, none⟩) (Kd.R_far (p := ⟨gb187, 6, none⟩) (Kd.R_far (p := ⟨gb187, 5, none⟩) (Kd.R_far (p := ⟨gb187, 4, none⟩) (Kd.R_far (p := ⟨gb187, 3, none⟩) (Kd.R_far (p := ⟨gb187, 2, none⟩) (Kd.R_far (p := ⟨gb187, 1, none⟩) (Kd.R_far (p := ⟨gb187, 0, none⟩) (Kd.R_types HO_189009.out BK187.out (by decide)) (fun _ hk => hk.2) (.int .u8 ((1 + (Int.tmod a0 7)) % 256))) (fun _ hk => hk.2) (.int .u32 a1)) (fun _ hk => hk.2) (.int .u32 0)) (fun _ hk => hk.2) (.slice none 0 0)) (fun _ hk => hk.2) (.slice none 0 0)) (fun _ hk => hk.2) (.int .u32 0)) (fun _ hk => hk.2) (.slice none 0 0)) (fun _ hk => hk.2) (.int .i64 (Int.tmod (wrap64 (a6)) 10001))) (fun _ hk => hk.2) (.int .i64 (Int.tmod (wrap64 (a7)) 10001))) (fun _ hk => hk.2) (.slice Ao75 x189009_2.length co75)) (fun _ hk => ⟨(by simp [Value.ownBlock]), (by simp [Value.ownBlock])⟩), by repeat (first | (with_reducible first | exact HB.out | apply iG | apply iF | apply iJ | refine iH ?_ GE187.out | refine iH ?_ GE188.out) | exact HB.out)⟩
       ·rw [if_neg c54] at H
        have c54b0 : (((1 + (Int.tmod a0 7)) % 256) == 7) = false := beq_eq_false_iff_ne.mpr c54
        have c54b1 : (((1 + (Int.tmod a0 7)) % 256) != 7) = true := bne_iff_ne.mpr c54
        simp only [Option.some.injEq, Prod.mk.injEq] at H
        obtain ⟨rfl, rfl, rfl, rfl, rfl, rfl, rfl, rfl, rfl, rfl⟩ := H
        have hnb76 := NB188_187.out
        have hnc76 := NB187_188.out
        have hcz77_0 : wr.cell? ⟨gb188, 0, none⟩ = some (.int .u8 ((1 + (Int.tmod a0 7)) % 256)) := (iE BK188.out 0).trans rfl
        have hcz77_1 : wr.cell? ⟨gb188, 1, none⟩ = some (.int .u32 a1) := (iE BK188.out 1).trans rfl
        have hcz77_2 : wr.cell? ⟨gb188, 2, none⟩ = some (.int .u32 0) := (iE BK188.out 2).trans rfl
        have hcz77_3 : wr.cell? ⟨gb188, 3, none⟩ = some (.slice none 0 0) := (iE BK188.out 3).trans rfl
        have hcz77_4 : wr.cell? ⟨gb188, 4, none⟩ = some (.slice none 0 0) := (iE BK188.out 4).trans rfl
        have hcz77_5 : wr.cell? ⟨gb188, 5, none⟩ = some (.int .u32 0) := (iE BK188.out 5).trans rfl
        have hcz77_6 : wr.cell? ⟨gb188, 6, none⟩ = some (.slice none 0 0) := (iE BK188.out 6).trans rfl
        have hcz77_7 : wr.cell? ⟨gb188, 7, none⟩ = some (.int .i64 0) := (iE BK188.out 7).trans rfl
        have hcz77_8 : wr.cell? ⟨gb188, 8, none⟩ = some (.int .i64 0) := (iE BK188.out 8).trans rfl
        have hcz77_9 : wr.cell? ⟨gb188, 9, none⟩ = some (.slice none 0 0) := (iE BK188.out 9).trans rfl
        have hfz77_0 := iD BK188.out 0
        have hfz77_1 := iD BK188.out 1
        have hfz77_2 := iD BK188.out 2
        have hfz77_3 := iD BK188.out 3
        have hfz77_4 := iD BK188.out 4
        have hfz77_5 := iD BK188.out 5
        have hfz77_6 := iD BK188.out 6
        have hfz77_7 := iD BK188.out 7
        have hfz77_8 := iD BK188.out 8
        have hfz77_9 := iD BK188.out 9
        have hcz78_0 : wr.cell? ⟨gb187, 0, none⟩ = some (.int .u8 0) := (iE BK187.out 0).trans rfl
        have hcz78_1 : wr.cell? ⟨gb187, 1, none⟩ = some (.int .u32 0) := (iE BK187.out 1).trans rfl
        have hcz78_2 : wr.cell? ⟨gb187, 2, none⟩ = some (.int .u32 0) := (iE BK187.out 2).trans rfl
        have hcz78_3 : wr.cell? ⟨gb187, 3, none⟩ = some (.slice none 0 0) := (iE BK187.out 3).trans rfl
        have hcz78_4 : wr.cell? ⟨gb187, 4, none⟩ = some (.slice none 0 0) := (iE BK187.out 4).trans rfl
        have hcz78_5 : wr.cell? ⟨gb187, 5, none⟩ = some (.int .u32 0) := (iE BK187.out 5).trans rfl
        have hcz78_6 : wr.cell? ⟨gb187, 6, none⟩ = some (.slice none 0 0) := (iE BK187.out 6).trans rfl
        have hcz78_7 : wr.cell? ⟨gb187, 7, none⟩ = some (.int .i64 0) := (iE BK187.out 7).trans rfl
        have hcz78_8 : wr.cell? ⟨gb187, 8, none⟩ = some (.int .i64 0) := (iE BK187.out 8).trans rfl
        have hcz78_9 : wr.cell? ⟨gb187, 9, none⟩ = some (.slice none 0 0) := (iE BK187.out 9).trans rfl
        have hfz78_0 := iD BK187.out 0
        have hfz78_1 := iD BK187.out 1
        have hfz78_2 := iD BK187.out 2
        have hfz78_3 := iD BK187.out 3
        have hfz78_4 := iD BK187.out 4
        have hfz78_5 := iD BK187.out 5
        have hfz78_6 := iD BK187.out 6
        have hfz78_7 := iD BK187.out 7
        have hfz78_8 := iD BK187.out 8
        have hfz78_9 := iD BK187.out 9
        go_wp2
        refine bodyPost_ret (results_cell_row rfl _ _ gb187 30 #[.int .u8 ((1 + (Int.tmod a0 7)) % 256), .int .u32 a1, .int .u32 0, .slice none 0 0, .slice none 0 0, .int .u32 0, .slice none 0 0, .int .i64 0, .int .i64 0, .slice none 0 0] (0, 0) _ rfl (by (with_reducible repeat (first | refine iL ?_ _ | refine iM ?_ | refine iI ?_ _)); refine iY (cs := #[.int .u8 ((1 + (Int.tmod a0 7)) % 256), .int .u32 a1, .int .u32 0, .slice none 0 0, .slice none 0 0, .int .u32 0, .slice none 0 0, .int .i64 0, .int .i64 0, .slice none 0 0]) ?_ 9 _ rfl; (with_reducible repeat (first | refine iL ?_ _ | refine iM ?_ | refine iI ?_ _)); refine iY (cs := #[.int .u8 ((1 + (Int.tmod a0 7)) % 256), .int .u32 a1, .int .u32 0, .slice none 0 0, .slice none 0 0, .int .u32 0, .slice none 0 0, .int .i64 0, .int .i64 0, .slice none 0 0]) ?_ 8 _ rfl; (with_reducible repeat (first | refine iL ?_ _ | refine iM ?_ | refine iI ?_ _)); refine iY (cs := #[.int .u8 ((1 + (Int.tmod a0 7)) % 256), .int .u32 a1, .int .u32 0, .slice none 0 0, .slice none 0 0, .int .u32 0, .slice none 0 0, .int .i64 0, .int .i64 0, .slice none 0 0]) ?_ 7 _ rfl; (with_reducible repeat (first | refine iL ?_ _ | refine iM ?_ | refine iI ?_ _)); refine iY (cs := #[.int .u8 ((1 + (Int.tmod a0 7)) % 256), .int .u32 a1, .int .u32 0, .slice none 0 0, .slice none 0 0, .int .u32 0, .slice none 0 0, .int .i64 0, .int .i64 0, .slice none 0 0]) ?_ 6 _ rfl; (with_reducible repeat (first | refine iL ?_ _ | refine iM ?_ | refine iI ?_ _)); refine iY (cs := #[.int .u8 ((1 + (Int.tmod a0 7)) % 256), .int .u32 a1, .int .u32 0, .slice none 0 0, .slice none 0 0, .int .u32 0, .slice none 0 0, .int .i64 0, .int .i64 0, .slice none 0 0]) ?_ 5 _ rfl; (with_reducible repeat (first | refine iL ?_ _ | refine iM ?_ | refine iI ?_ _)); refine iY (cs := #[.int .u8 ((1 + (Int.tmod a0 7)) % 256), .int .u32 a1, .int .u32 0, .slice none 0 0, .slice none 0 0, .int .u32 0, .slice none 0 0, .int .i64 0, .int .i64 0, .slice none 0 0]) ?_ 4 _ rfl; (with_reducible repeat (first | refine iL ?_ _ | refine iM ?_ | refine iI ?_ _)); refine iY (cs := #[.int .u8 ((1 + (Int.tmod a0 7)) % 256), .int .u32 a1, .int .u32 0, .slice none 0 0, .slice none 0 0, .int .u32 0, .slice none 0 0, .int .i64 0, .int .i64 0, .slice none 0 0]) ?_ 3 _ rfl; (with_reducible repeat (first | refine iL ?_ _ | refine iM ?_ | refine iI ?_ _)); refine iY (cs := #[.int .u8 ((1 + (Int.tmod a0 7)) % 256), .int .u32 a1, .int .u32 0, .slice none 0 0, .slice none 0 0, .int .u32 0, .slice none 0 0, .int .i64 0, .int .i64 0, .slice none 0 0]) ?_ 2 _ rfl; (with_reducible repeat (first | refine iL ?_ _ | refine iM ?_ | refine iI ?_ _)); refine iY (cs := #[.int .u8 ((1 + (Int.tmod a0 7)) % 256), .int .u32 0, .int .u32 0, .slice none 0 0, .slice none 0 0, .int .u32 0, .slice none 0 0, .int .i64 0, .int .i64 0, .slice none 0 0]) ?_ 1 _ rfl; (with_reducible repeat (first | refine iL ?_ _ | refine iM ?_ | refine iI ?_ _)); refine iY (cs := #[.int .u8 0, .int .u32 0, .int .u32 0, .slice none 0 0, .slice none 0 0, .int .u32 0, .slice none 0 0, .int .i64 0, .int .i64 0, .slice none 0 0]) ?_ 0 _ rfl; (with_reducible repeat (first | refine iL ?_ _ | refine iM ?_ | refine iI ?_ _)); exact BK187.out) Tryd.underlying30 rfl (by kernel_rfl)) rfl ?_
        exact ⟨_, _, _, _, by first | rfl | (simp [iW, iV] <;> rfl) | (simp [*, iW, iV] <;> rfl), by first | exact Kd.R_nil _ _ _ _ _ | exact Kd.N_nil _ _ _ _ _ | exact Kd.V_nil _ _ _ _ _ | exact Kd.Q_nil _ _ _ _ _ | exact Kd.S_nil _ _ _ _ _, by first | exact Kd.R_nil _ _ _ _ _ | exact Kd.N_nil _ _ _ _ _ | exact Kd.V_nil _ _ _ _ _ | exact Kd.Q_nil _ _ _ _ _ | exact Kd.S_nil _ _ _ _ _, by first | exact Kd.R_nil _ _ _ _ _ | exact Kd.N_nil _ _ _ _ _ | exact Kd.V_nil _ _ _ _ _ | exact Kd.Q_nil _ _ _ _ _ | exact Kd.S_nil _ _ _ _ _, by first | exact Kd.R_nil _ _ _ _ _ | exact Kd.N_nil _ _ _ _ _ | exact Kd.V_nil _ _ _ _ _ | exact Kd.Q_nil _ _ _ _ _ | exact Kd.S_nil _ _ _ _ _, by repeat (first | (with_reducible first | exact HB.out | apply iG | apply iF | apply iJ | refine iH ?_ GE187.out | refine iH ?_ GE188.out) | exact HB.out)⟩
end Go.Proofs.YtgfkgppomaapiaaDoor.K
end
