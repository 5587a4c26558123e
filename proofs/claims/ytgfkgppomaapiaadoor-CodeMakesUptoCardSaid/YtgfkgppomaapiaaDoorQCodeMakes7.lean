/- Parts of the proof, one behind the other: LawF. -/
import Derived.Test.YtgfkgppomaapiaaDoorQCodeMakes6
set_option linter.unusedVariables false
set_option linter.unusedSimpArgs false
section
namespace Go.Proofs.YtgfkgppomaapiaaDoor.K
open Go.RowKit Go.Proofs.YtgfkgppomaapiaaDoorW.PrintWords Go.Proofs.YtgfkgppomaapiaaDoorW.PrintLast Go.Proofs.YtgfkgppomaapiaaDoorW.PrintMore
attribute [local go_sem] kC kN
theorem QA : (Tryd.prog.info? 139).map (fun i => (i.zero, i.size, i.bytes)) = some (some (.agg #[(.slice none 0 0), (.int .i64 0)]), 2, 32) := by kernel_rfl
mutual
def stratumlaw07_Facts.l0 : Nat → List (S139) → List (S139) → Int → Option ((List (S139)))
  | 0, _, _, _ => none
  | k + 1, x0, x3, x4 => if x4 < (x0.length : Int) then (stratumlaw07_Facts.j1 k x0 x3 x4 (decide (x4 < 60))) else (stratumlaw07_Facts.j1 k x0 x3 x4 false)
def stratumlaw07_Facts.j1 : Nat → List (S139) → List (S139) → Int → Bool → Option ((List (S139)))
  | 0, _, _, _, _ => none
  | k + 1, x0, x3, x4, x14 => if x14 = true then (if 0 ≤ x4 then (if x4 < (x0.length : Int) then (stratumlaw07_Facts.l1 k x0 x3 x4 0 ([] : List Int) ((iU x0 x4).f1)) else (none)) else (none)) else (some x3)
def stratumlaw07_Facts.l1 : Nat → List (S139) → List (S139) → Int → Int → List Int → Int → Option ((List (S139)))
  | 0, _, _, _, _, _, _ => none
  | k + 1, x0, x3, x4, x6, x178000, x178001 => if 0 ≤ x4 then (if x4 < (x0.length : Int) then (if x6 < (((iU x0 x4).f0).length : Int) then (if x6 < 4 then (if 0 ≤ x6 then (if x178000.length < 17592186044416 then (stratumlaw07_Facts.l1 k x0 x3 x4 (wrap64 (x6 + 1)) (x178000 ++ [(mx (rd ((iU x0 x4).f0) x6) 0) % 10000]) x178001) else (none)) else (none)) else (if x3.length < 4398046511104 then (stratumlaw07_Facts.l0 k x0 (x3 ++ [(⟨x178000, x178001⟩ : S139)]) (wrap64 (x4 + 1))) else (none))) else (if x3.length < 4398046511104 then (stratumlaw07_Facts.l0 k x0 (x3 ++ [(⟨x178000, x178001⟩ : S139)]) (wrap64 (x4 + 1))) else (none))) else (none)) else (none)
end
def stratumlaw07_Facts.f (k : Nat) (l0 : List (S139)) : Option ((List (S139))) := stratumlaw07_Facts.l0 k l0 ([] : List (S139)) 0
def stratumlaw07_Facts.T9 : Bool × List (List Nat × List Nat) := (true, [([], []), ([0], [0]), ([], []), ([], []), ([2, 3], [2, 3]), ([4], [4]), ([5], [5]), ([], []), ([6, 7], [6, 7]), ([8], [8]), ([9], [9]), ([10], [10]), ([11], [11]), ([1, 12], [1, 12]), ([0, 1, 2, 3, 4, 5, 6, 7, 8, 9, 10, 11, 12, 13], []), ([14, 13, 13, 0, 1, 2, 3, 4, 5, 6, 7, 8, 9, 10, 11, 12, 13], [13, 14])])
def stratumlaw07_Facts.B9 : List Nat := [0, 1, 0, 0, 12, 28, 60, 0, 252, 508, 1020, 2044, 4092, 8191, 16383, 32767]
theorem stratumlaw07_Facts.tab9 : rtab .any (opsOf Tryd.f73 9) = stratumlaw07_Facts.T9 := by kernel_rfl
theorem stratumlaw07_Facts.bits9 : mF stratumlaw07_Facts.T9.2 stratumlaw07_Facts.B9 = true := by kernel_rfl
set_option maxHeartbeats 8000000 in
set_option maxRecDepth 100000 in
theorem stratumlaw07_Facts.callsS (k : Nat) (A0 : Option Addr) (c0 : Nat) (l0 : List (S139)) (r : List (S139)) (w : World) (hr0 : Kd.C k139 w A0 l0.length l0) (hc0 : l0.length ≤ c0) (h : stratumlaw07_Facts.f k l0 = some r) :
    Calls Tryd.prog 73 #[.slice A0 l0.length c0] w fun e w' => ∃ v0_ : Value, e = .returned (v0_) ∧ Kd.S k139 139 w' w.heap.size (fun _ => True) v0_ r ∧ Below w.heap.size w w' := by
  have hu139 := Tryd.underlying139
  have HR0 := iD.mk hr0
  have HC0 := iD.mk hc0
  clear hr0 hc0
  have HB := iD.mk (Below.refl w.heap.size w)
  have H : (stratumlaw07_Facts.l0 k l0 ([] : List (S139)) 0) = some r := h
  clear h
  have H' := iD.mk H
  clear H
  go_enter Tryd.func73, Tryd.ntmps73
  go_wp2
  go_loopg [3, 4] k (fun kq v3 v4 w' => ∃ (x3_1 : List (S139)) (x4_1 : Int), v4 = .int .i64 x4_1 ∧ iD (stratumlaw07_Facts.l0 kq l0 x3_1 x4_1 = some r) ∧ iD (kq ≤ k) ∧ iD (Kd.S k139 139 w' w.heap.size (fun _ => True) v3 x3_1) ∧ iD (Below w.heap.size w w'))
  case atStart => exact ⟨(([] : List (S139))), (0), (by first | rfl | (simp; done) | (simp [*]; done)), H', ⟨Nat.le_refl _⟩, ⟨by first | exact Kd.S_nil _ _ _ _ _ | exact Kd.N_nil _ _ _ _ _ | exact Kd.V_nil _ _ _ _ _ | exact Kd.Q_nil _ _ _ _ _ | exact Kd.R_nil _ _ _ _ _⟩, ⟨hb_⟩⟩
  case round =>
    clear H'
    obtain ⟨x3_1, x4_1, rfl, HA, HK1, HO_3, HB⟩ := hrel
    cases gk with
    | zero => exact absurd HA.out (by simp [stratumlaw07_Facts.l0])
    | succ k1 =>
      have H := HA.out
      clear HA
      simp only [stratumlaw07_Facts.l0] at H
      have HC2 := iD.mk H
      clear H
      go_upto_region 3 with (fail)
      go_cut [14] (fun v14 wc => ∃ (kq : Nat) (x14_1 : Bool), v14 = .bool x14_1 ∧ iD (stratumlaw07_Facts.j1 kq l0 x3_1 x4_1 x14_1 = some r) ∧ iD (kq ≤ k1) ∧ iD (Kd.S k139 139 wc w.heap.size (fun _ => True) u3 x3_1) ∧ iD (Below w.heap.size w wc))
      case first =>
        have H := HC2.out
        clear HC2
        by_cases c3 : x4_1 < (l0.length : Int)
        · rw [if_pos c3] at H
          have c3b0 : decide (x4_1 < (l0.length : Int)) = true := decide_eq_true c3
          clear c3
          (first | rw [c3b0] | (simp only [iY, jE]; rw [c3b0]) | skip)
          have H' := iD.mk H
          clear H
          go_wp2
          go_meet
          case rel => exact ⟨_, (decide (x4_1 < 60)), (by first | rfl | (simp; done) | (simp [*]; done)), H', ⟨by have := HK1.out; first | omega | exact Nat.le_refl _⟩, ⟨by (with_reducible repeat (first | apply Kd.S_alloc | apply Kd.S_drewN | apply Kd.S_drew)); exact HO_3.out⟩, ⟨hb_⟩⟩
        · rw [if_neg c3] at H
          have c3b0 : decide (x4_1 < (l0.length : Int)) = false := decide_eq_false c3
          clear c3
          (first | rw [c3b0] | (simp only [iY, jE]; rw [c3b0]) | skip)
          have H' := iD.mk H
          clear H
          go_wp2
          go_meet
          case rel => exact ⟨_, (false), (by first | rfl | (simp; done) | (simp [*]; done)), H', ⟨by have := HK1.out; first | omega | exact Nat.le_refl _⟩, ⟨by (with_reducible repeat (first | apply Kd.S_alloc | apply Kd.S_drewN | apply Kd.S_drew)); exact HO_3.out⟩, ⟨hb_⟩⟩
      case rest =>
        clear HC2
        try clear p2
        try clear c3
        try clear c3b0
        obtain ⟨kq, x14_1, rfl, HA, HJ1, HO_3, HB⟩ := hcut
        cases kq with
        | zero => exact absurd HA.out (by simp [stratumlaw07_Facts.j1])
        | succ kj1 =>
          have H := HA.out
          clear HA
          simp only [stratumlaw07_Facts.j1] at H
          by_cases c4 : x14_1 = true
          · subst c4
            have H1 : (if 0 ≤ x4_1 then (if x4_1 < (l0.length : Int) then (stratumlaw07_Facts.l1 kj1 l0 x3_1 x4_1 0 ([] : List Int) ((iU l0 x4_1).f1)) else (none)) else (none)) = some r := by rw [if_pos rfl] at H; exact H
            clear H
            have H := H1
            clear H1
            by_cases c5 : 0 ≤ x4_1
            · rw [if_pos c5] at H
              have c5b0 : decide (0 ≤ x4_1) = true := decide_eq_true c5
              clear c5
              by_cases c6 : x4_1 < (l0.length : Int)
              · rw [if_pos c6] at H
                have c6b0 : decide (x4_1 < (l0.length : Int)) = true := decide_eq_true c6
                clear c6
                have H' := iD.mk H
                clear H
                have p176 : 0 ≤ (x4_1 : Int) := of_decide_eq_true asm_
                have q176 : x4_1 < (l0.length : Int) := of_decide_eq_true asm_
                obtain ⟨ad176, A176_0, c176_0, e176, hx176_0, hx176_1, hl176_0, hi176_0⟩ := kG HR0.out x4_1 p176 q176
                cases e176
                replace hx176_0 := (HB.out.cell (World.block_lt_of_cell? w _ hx176_0)).trans hx176_0
                replace hx176_1 := (HB.out.cell (World.block_lt_of_cell? w _ hx176_1)).trans hx176_1
                have HR176_0 := iD.mk hi176_0
                have HC176_0 := iD.mk hl176_0
                clear hi176_0 hl176_0
                replace p176 := eq_true p176
                replace q176 := eq_true q176
                go_wp2_with (first | ((with_reducible refine jS (N := 5) rfl ?_); refine jO ?hg (N := 5) ?hd (cs := #[.slice none 0 0, .int .i64 0]) (t := 139) ?hr ?_; (case hd => rfl); (case hg => rfl); (case hr => first | (go_simp; done) | (go_simp; rfl)); intro gb177 hg w7 hbox hb; have n0_ := iD.mk (Kd.S_below (Kd.S_elderB (by (with_reducible repeat (first | apply Kd.S_alloc | apply Kd.S_drewN | apply Kd.S_drew)); exact HO_3.out) gb177 (Nat.le_of_eq hg.symm)) hb); have n1_ := iD.mk (iL hb_ hb); have n2_ := iD.mk (hbox); have n3_ := iD.mk ((by rw [hg]; exact (iT hb_) : w.heap.size ≤ gb177)); have n4_ := iD.mk ((by rw [hg]; exact (iT hb_) : w.heap.size ≤ gb177)); clear HO_3; clear HB; have HO_3 := n0_; have HB := n1_; have BK177 := n2_; have GW177 := n3_; have GE177 := n4_; clear n0_ n1_ n2_ n3_ n4_; clear hb hbox hg; have hcz8_0 : w7.cell? ⟨gb177, 0, none⟩ = some (.slice none 0 0) := (iE BK177.out 0).trans rfl; have hcz8_1 : w7.cell? ⟨gb177, 1, none⟩ = some (.int .i64 0) := (iE BK177.out 1).trans rfl; have hfz8_0 := iC BK177.out 0; have hfz8_1 := iC BK177.out 1))
                go_loopg [6] kj1 (fun kq v6 w' => ∃ (x6_3 : Int) (x178000_3 : List Int) (u178000 : Value), v6 = .int .i64 x6_3 ∧ iD (stratumlaw07_Facts.l1 kq l0 x3_1 x4_1 x6_3 x178000_3 ((iU l0 x4_1).f1) = some r) ∧ iD (kq ≤ kj1) ∧ iD (Kd.S k139 139 w' w.heap.size (fun k_ => some k_ ≠ (u178000 : Value).ownBlock ∧ k_ ≠ gb177) u3 x3_1) ∧ iD (Kd.R (Kd.int .i64) 3 w' w.heap.size (fun _ => True) u178000 x178000_3) ∧ iD (w'.heap[gb177]? = some (.cells #[u178000, .int .i64 ((iU l0 x4_1).f1)] 139 (0, 0))) ∧ iD (Below w.heap.size w w'))
                case atStart => exact ⟨(0), (([] : List Int)), (.slice none 0 0), (by first | rfl | (simp; done) | (simp [*]; done)), H', ⟨Nat.le_refl _⟩, ⟨by (with_reducible repeat (first | apply Kd.S_alloc | apply Kd.S_drewN | apply Kd.S_drew)); exact Kd.S_mono (Kd.S_far (p := ⟨gb177, 1, none⟩) (Kd.S_far (p := ⟨gb177, 0, none⟩) (Kd.S_mono HO_3.out (fun k_ hk => (⟨hk, hk.2⟩ : _ ∧ k_ ≠ gb177))) (fun _ hk => hk.2) (.slice none 0 0)) (fun _ hk => hk.2) (.int .i64 ((iU l0 x4_1).f1))) (fun _ hk => ⟨(by simp [Value.ownBlock]), hk.1.2⟩)⟩, ⟨by first | exact Kd.R_nil _ _ _ _ _ | exact Kd.N_nil _ _ _ _ _ | exact Kd.V_nil _ _ _ _ _ | exact Kd.Q_nil _ _ _ _ _ | exact Kd.S_nil _ _ _ _ _⟩, ⟨by (with_reducible repeat (first | refine iK ?_ _ | refine iM ?_ | refine iJ ?_ _)); refine iW (cs := #[.slice none 0 0, .int .i64 0]) ?_ 1 _ rfl; (with_reducible repeat (first | refine iK ?_ _ | refine iM ?_ | refine iJ ?_ _)); refine iW (cs := #[.slice none 0 0, .int .i64 0]) ?_ 0 _ rfl; (with_reducible repeat (first | refine iK ?_ _ | refine iM ?_ | refine iJ ?_ _)); exact BK177.out⟩, ⟨by repeat (first | (with_reducible first | exact HB.out | apply iF | apply iG | apply iH | refine iI ?_ GE177.out) | exact HB.out)⟩⟩
                case round =>
                  clear H'
                  try clear c1
                  try clear p1
                  try clear q1
                  try clear hx1
                  try clear p2
                  try clear c3
                  try clear c3b0
                  try clear c4
                  try clear c5
                  try clear c5b0
                  try clear c6
                  try clear c6b0
                  try clear c7
                  try clear hcz8_0
                  try clear hcz8_1
                  try clear hfz8_0
                  try clear hfz8_1
                  try clear hx176_0
                  try clear hx176_1
                  try clear p176
                  try clear p2
                  try clear q176
                  obtain ⟨x6_3, x178000_3, u178000, rfl, HA, HK3, HO_3, HO_178000, BK177, HB⟩ := hrel
                  cases gk with
                  | zero => exact absurd HA.out (by simp [stratumlaw07_Facts.l1])
                  | succ k3 =>
                    have H := HA.out
                    clear HA
                    simp only [stratumlaw07_Facts.l1] at H
                    by_cases c9 : 0 ≤ x4_1
                    · rw [if_pos c9] at H
                      have c9b0 : decide (0 ≤ x4_1) = true := decide_eq_true c9
                      clear c9
                      by_cases c10 : x4_1 < (l0.length : Int)
                      · rw [if_pos c10] at H
                        have c10b0 : decide (x4_1 < (l0.length : Int)) = true := decide_eq_true c10
                        clear c10
                        by_cases c11 : x6_3 < (((iU l0 x4_1).f0).length : Int)
                        · rw [if_pos c11] at H
                          have c11b0 : decide (x6_3 < (((iU l0 x4_1).f0).length : Int)) = true := decide_eq_true c11
                          clear c11
                          by_cases c12 : x6_3 < 4
                          · rw [if_pos c12] at H
                            have c12b0 : decide (x6_3 < 4) = true := decide_eq_true c12
                            clear c12
                            by_cases c13 : 0 ≤ x6_3
                            · rw [if_pos c13] at H
                              have c13b0 : decide (0 ≤ x6_3) = true := decide_eq_true c13
                              clear c13
                              obtain ⟨ji14, hji14⟩ : ∃ j_ : Int, (mx (rd ((iU l0 x4_1).f0) x6_3) 0) = j_ := ⟨_, rfl⟩
                              replace H : (if x178000_3.length < 17592186044416 then (stratumlaw07_Facts.l1 k3 l0 x3_1 x4_1 (wrap64 (x6_3 + 1)) (x178000_3 ++ [(ji14) % 10000]) ((iU l0 x4_1).f1)) else (none)) = some r := by first | (rw [hji14] at H; exact H) | (simp only [hji14] at H ⊢; exact H)
                              have hji14_ : (if (rd ((iU l0 x4_1).f0) x6_3) < 0 then 0 else (rd ((iU l0 x4_1).f0) x6_3)) = ji14 := hji14
                              have hpos_ : 0 ≤ ji14 := by rw [← hji14_]; split <;> omega
                              have hmod_ : ji14.tmod 10000 = ji14 % 10000 := Int.tmod_eq_emod_of_nonneg hpos_
                              by_cases c15 : x178000_3.length < 17592186044416
                              · rw [if_pos c15] at H
                                have LMc15 := iD.mk c15
                                clear c15
                                obtain ⟨y181, hy181⟩ : ∃ y_ : List Int, y_ = (x178000_3 ++ [(ji14) % 10000]) := ⟨_, rfl⟩
                                replace H : (stratumlaw07_Facts.l1 k3 l0 x3_1 x4_1 (wrap64 (x6_3 + 1)) y181 ((iU l0 x4_1).f1)) = some r := by first | (rw [hy181]; with_reducible exact H) | (have H2_ := (Option.bind_some _ _).symm.trans H; rw [hy181]; with_reducible exact H2_) | (have H2_ := (Option.bind_some _ _).symm.trans H; with_reducible exact H2_) | with_reducible exact H | (rw [hy181]; exact H) | exact H
                                have Ny181 := iD.mk hy181
                                clear hy181
                                have H' := iD.mk H
                                clear H
                                have p178 : 0 ≤ (x4_1 : Int) := of_decide_eq_true asm_
                                have q178 : x4_1 < (l0.length : Int) := of_decide_eq_true asm_
                                obtain ⟨ad178, A178_0, c178_0, e178, hx178_0, hx178_1, hl178_0, hi178_0⟩ := kG HR0.out x4_1 p178 q178
                                obtain rfl : ad176 = ad178 := (by injection e178)
                                replace hx178_0 := (HB.out.cell (World.block_lt_of_cell? w _ hx178_0)).trans hx178_0
                                replace hx178_1 := (HB.out.cell (World.block_lt_of_cell? w _ hx178_1)).trans hx178_1
                                have HR178_0 := iD.mk hi178_0
                                have HC178_0 := iD.mk hl178_0
                                clear hi178_0 hl178_0
                                replace p178 := eq_true p178
                                replace q178 := eq_true q178
                                try go_wp2
                                have n0_ := iD.mk (Kd.S_drew HO_3.out)
                                have n1_ := iD.mk (Kd.R_drew HO_178000.out)
                                have n2_ := iD.mk (iM BK177.out)
                                have n3_ := iD.mk (iH HB.out)
                                clear HO_3
                                clear HO_178000
                                clear BK177
                                clear HB
                                have HO_3 := n0_
                                have HO_178000 := n1_
                                have BK177 := n2_
                                have HB := n3_
                                clear n0_ n1_ n2_ n3_
                                have p179 : 0 ≤ (x4_1 : Int) := of_decide_eq_true asm_
                                have q179 : x4_1 < (l0.length : Int) := of_decide_eq_true asm_
                                obtain ⟨ad179, A179_0, c179_0, e179, hx179_0, hx179_1, hl179_0, hi179_0⟩ := kG HR0.out x4_1 p179 q179
                                have hw179_1 := hx179_1
                                have hw179_0 := hx179_0
                                obtain rfl : ad176 = ad179 := (by injection e179)
                                replace hx179_0 := (HB.out.cell (World.block_lt_of_cell? w _ hx179_0)).trans hx179_0
                                replace hx179_1 := (HB.out.cell (World.block_lt_of_cell? w _ hx179_1)).trans hx179_1
                                have HR179_0 := iD.mk hi179_0
                                have HC179_0 := iD.mk hl179_0
                                clear hi179_0 hl179_0
                                replace p179 := eq_true p179
                                replace q179 := eq_true q179
                                have p180 : 0 ≤ (x6_3 : Int) := of_decide_eq_true asm_
                                have q180 : x6_3 < (((iU l0 x4_1).f0).length : Int) := of_decide_eq_true asm_
                                obtain ⟨ad180, e180, hx180_0⟩ := Kd.at_int HR179_0.out x6_3 p180 q180
                                have hw180_0 := hx180_0
                                cases e180
                                replace hx180_0 := (HB.out.cell (World.block_lt_of_cell? w _ hx180_0)).trans hx180_0
                                replace p180 := eq_true p180
                                replace q180 := eq_true q180
                                refine qN (n := 16) (S := fun w' => w'.cell? ⟨gb177, 0, none⟩ = some (u178000) ∧ w'.cell? ⟨gb177, 1, none⟩ = some (.int .i64 ((iU l0 x4_1).f1)) ∧ w'.cell? (ad176.add ((x4_1).toNat * 2)) = some (.slice (some ad180) ((iU l0 x4_1).f0).length c179_0) ∧ w'.cell? ⟨(ad176.add ((x4_1).toNat * 2)).block, (ad176.add ((x4_1).toNat * 2)).off + 1, none⟩ = some (.int .i64 ((iU l0 x4_1).f1)) ∧ w'.cell? (ad180.add (x6_3).toNat) = some (.int .i64 (rd ((iU l0 x4_1).f0) x6_3))) (ds := [15]) #[false, false, false, false, false, false, false, false, false, false, false, false, false, false, false, false] (by kernel_rfl) rfl rfl ⟨(iE BK177.out 0).trans rfl, (iE BK177.out 1).trans rfl, ((HB.out.cell (World.block_lt_of_cell? w _ hw179_0)).trans hw179_0), ((HB.out.cell (World.block_lt_of_cell? w _ hw179_1)).trans hw179_1), ((HB.out.cell (World.block_lt_of_cell? w _ hw180_0)).trans hw180_0)⟩ (fun hHeld => ?_); refine mO stratumlaw07_Facts.tab9 stratumlaw07_Facts.bits9 (fun HT_ HW_ => ?_)
                                generalize wr.drew = w16 at HO_3 HO_178000 BK177 HB HR179_0 hx179_0 hx179_1 hx180_0 hHeld ⊢
                                refine jM (i := 0) (N := some 37) (v := ?_) (a' := ?_) #[true, false, false, false, false, false, false, false, false, false, false, false, false, false, false, false] rfl rfl (jD HT_.out (by kernel_rfl)) (fun _ _ _ h => h) (Or.inl ⟨by rfl, ?_⟩) ?_ ?_
                                rotate_left
                                · intro w'
                                  go_simp
                                  with_reducible rfl
                                rotate_left
                                · simp only [Act.put, List.setIfInBounds_toArray, List.set_cons_zero, List.set_cons_succ, iY, jE]
                                  rfl
                                refine jM (i := 2) (N := some 39) (v := ?_) (a' := ?_) #[true, false, true, false, false, false, false, false, false, false, false, false, false, false, false, false] rfl rfl (jD HT_.out (by kernel_rfl)) (fun _ _ _ h => h) (Or.inl ⟨by rfl, ?_⟩) ?_ ?_
                                rotate_left
                                · intro w'
                                  go_simp
                                  with_reducible rfl
                                rotate_left
                                · simp only [Act.put, List.setIfInBounds_toArray, List.set_cons_zero, List.set_cons_succ, iY, jE]
                                  rfl
                                refine jM (i := 3) (N := some 40) (v := ?_) (a' := ?_) #[true, false, true, true, false, false, false, false, false, false, false, false, false, false, false, false] rfl rfl (jD HT_.out (by kernel_rfl)) (fun _ _ _ h => h) (Or.inl ⟨by rfl, ?_⟩) ?_ ?_
                                rotate_left
                                · intro w'
                                  go_simp
                                  with_reducible rfl
                                rotate_left
                                · simp only [Act.put, List.setIfInBounds_toArray, List.set_cons_zero, List.set_cons_succ, iY, jE]
                                  rfl
                                refine jM (i := 4) (N := some 41) (v := ?_) (a' := ?_) #[true, false, true, true, true, false, false, false, false, false, false, false, false, false, false, false] rfl rfl (jD HT_.out (by kernel_rfl)) (fun _ _ _ h => h) (Or.inl ⟨by rfl, ?_⟩) ?_ ?_
                                rotate_left
                                · intro w'
                                  go_simp
                                  with_reducible rfl
                                rotate_left
                                · simp only [Act.put, List.setIfInBounds_toArray, List.set_cons_zero, List.set_cons_succ, iY, jE]
                                  rfl
                                refine jM (i := 5) (N := some 42) (v := ?_) (a' := ?_) #[true, false, true, true, true, true, false, false, false, false, false, false, false, false, false, false] rfl rfl (jD HT_.out (by kernel_rfl)) (fun _ _ _ h => h) (Or.inl ⟨by rfl, ?_⟩) ?_ ?_
                                rotate_left
                                · intro w'
                                  go_simp
                                  with_reducible rfl
                                rotate_left
                                · simp only [Act.put, List.setIfInBounds_toArray, List.set_cons_zero, List.set_cons_succ, iY, jE]
                                  rfl
                                refine jM (i := 7) (N := some 44) (v := ?_) (a' := ?_) #[true, false, true, true, true, true, false, true, false, false, false, false, false, false, false, false] rfl rfl (jD HT_.out (by kernel_rfl)) (fun _ _ _ h => h) (Or.inl ⟨by rfl, ?_⟩) ?_ ?_
                                rotate_left
                                · intro w'
                                  go_simp
                                  with_reducible rfl
                                rotate_left
                                · simp only [Act.put, List.setIfInBounds_toArray, List.set_cons_zero, List.set_cons_succ, iY, jE]
                                  rfl
                                refine qM (i := 1) (N := some 38) (v := ?_) (a' := ?_) #[true, true, true, true, true, true, false, true, false, false, false, false, false, false, false, false] rfl rfl (kW HT_.out HW_.out (by kernel_rfl)) (fun _ _ _ h => h) (Or.inl ⟨by rfl, ?_⟩) hHeld ?_ ?_
                                rotate_left
                                · rintro w' ⟨s0, s1, s2, s3, s4⟩
                                  go_simp
                                  with_reducible rfl
                                rotate_left
                                · simp only [Act.put, List.setIfInBounds_toArray, List.set_cons_zero, List.set_cons_succ, iY, jE]
                                  rfl
                                refine qM (i := 6) (N := some 43) (v := ?_) (a' := ?_) #[true, true, true, true, true, true, true, true, false, false, false, false, false, false, false, false] rfl rfl (kW HT_.out HW_.out (by kernel_rfl)) (fun _ _ _ h => h) (Or.inl ⟨by rfl, ?_⟩) hHeld ?_ ?_
                                rotate_left
                                · rintro w' ⟨s0, s1, s2, s3, s4⟩
                                  go_simp
                                  with_reducible rfl
                                rotate_left
                                · simp only [Act.put, List.setIfInBounds_toArray, List.set_cons_zero, List.set_cons_succ, iY, jE]
                                  rfl
                                refine jM (i := 8) (N := some 45) (v := ?_) (a' := ?_) #[true, true, true, true, true, true, true, true, true, false, false, false, false, false, false, false] rfl rfl (jD HT_.out (by kernel_rfl)) (fun _ _ _ h => h) (Or.inl ⟨by rfl, ?_⟩) ?_ ?_
                                rotate_left
                                · intro w'
                                  go_simp
                                  with_reducible rfl
                                rotate_left
                                · simp only [Act.put, List.setIfInBounds_toArray, List.set_cons_zero, List.set_cons_succ, iY, jE]
                                  rfl
                                refine qM (i := 9) (N := some 46) (v := ?_) (a' := ?_) #[true, true, true, true, true, true, true, true, true, true, false, false, false, false, false, false] rfl rfl (kW HT_.out HW_.out (by kernel_rfl)) (fun _ _ _ h => h) (Or.inl ⟨by rfl, ?_⟩) hHeld ?_ ?_
                                rotate_left
                                · rintro w' ⟨s0, s1, s2, s3, s4⟩
                                  go_simp
                                  with_reducible rfl
                                rotate_left
                                · simp only [Act.put, List.setIfInBounds_toArray, List.set_cons_zero, List.set_cons_succ, iY, jE]
                                  rfl
                                refine jM (i := 10) (N := some 47) (v := ?_) (a' := ?_) #[true, true, true, true, true, true, true, true, true, true, true, false, false, false, false, false] rfl rfl (jD HT_.out (by kernel_rfl)) (fun _ _ _ h => h) (Or.inl ⟨by rfl, ?_⟩) ?_ ?_
                                rotate_left
                                · intro w'
                                  go_simp
                                  with_reducible rfl
                                rotate_left
                                · simp only [Act.put, List.setIfInBounds_toArray, List.set_cons_zero, List.set_cons_succ, iY, jE]
                                  rfl
                                refine jM (i := 11) (N := some 48) (v := ?_) (a' := ?_) #[true, true, true, true, true, true, true, true, true, true, true, true, false, false, false, false] rfl rfl (jD HT_.out (by kernel_rfl)) (fun _ _ _ h => h) (Or.inl ⟨by rfl, ?_⟩) ?_ ?_
                                rotate_left
                                · intro w'
                                  go_simp
                                  with_reducible rfl
                                rotate_left
                                · simp only [Act.put, List.setIfInBounds_toArray, List.set_cons_zero, List.set_cons_succ, iY, jE]
                                  rfl
                                refine one_ (i := 12) (N := some 49) #[true, true, true, true, true, true, true, true, true, true, true, true, true, false, false, false] rfl rfl (lJ HT_.out (by kernel_rfl)) (by decide) (fun K hK => ?_)
                                refine kK (w1 := ?_) (v := ?_) (by rfl) rfl ?_ ?_
                                rotate_left 2
                                · go_simp
                                  constructor
                                  · rfl
                                  · rfl
                                refine hK.out _ _ ⟨(iE (iJ BK177.out _) 0).trans rfl, (iE (iJ BK177.out _) 1).trans rfl, (World.cell?_alloc_lt _ _ _ (World.block_lt_of_cell? _ _ (((HB.out.cell (World.block_lt_of_cell? w _ hw179_0)).trans hw179_0)))).trans (((HB.out.cell (World.block_lt_of_cell? w _ hw179_0)).trans hw179_0)), (World.cell?_alloc_lt _ _ _ (World.block_lt_of_cell? _ _ (((HB.out.cell (World.block_lt_of_cell? w _ hw179_1)).trans hw179_1)))).trans (((HB.out.cell (World.block_lt_of_cell? w _ hw179_1)).trans hw179_1)), (World.cell?_alloc_lt _ _ _ (World.block_lt_of_cell? _ _ (((HB.out.cell (World.block_lt_of_cell? w _ hw180_0)).trans hw180_0)))).trans (((HB.out.cell (World.block_lt_of_cell? w _ hw180_0)).trans hw180_0))⟩ (fun hHeld => ?_)
                                clear hK K
                                refine lI (a' := ?_) ?_ ?_
                                rotate_left
                                · show Act.put _ (some 49) _ = _
                                  simp only [Act.put, List.setIfInBounds_toArray, List.set_cons_zero, List.set_cons_succ, iY, jE]
                                  rfl
                                refine one_ (i := 13) (N := some 50) #[true, true, true, true, true, true, true, true, true, true, true, true, true, true, false, false] rfl rfl (lJ HT_.out (by kernel_rfl)) (by decide) (fun K hK => ?_)
                                refine Kd.R_append_step (Kd.int .i64) (w0 := w) w.heap.size (by rfl) (.tmp 38) (.tmp 49) 23 3 (.int .i64 0) 8 rfl Tryd.underlying23 info3 rfl (by decide) (by omega) u178000 x178000_3 ((ji14) % 10000) [.int .i64 ((ji14) % 10000)] (fun _ => True) (fun _ => False) rfl rfl ?aP (fun _ hk => hk.elim) ?aF ?aO ?aB ?aS ?aL ?_
                                (case aP => exact rfl)
                                (case aB => exact (by repeat (first | (with_reducible first | exact HB.out | apply iF | apply iG | apply iH | refine iI ?_ GE177.out) | exact HB.out)))
                                (case aF => exact (fun _ _ => trivial))
                                (case aO => exact (by (with_reducible repeat (first | apply Kd.R_alloc | apply Kd.R_drewN | apply Kd.R_drew)); exact HO_178000.out))
                                (case aS => exact (iT (by repeat (first | (with_reducible first | exact HB.out | apply iF | apply iG | apply iH | refine iI ?_ GE177.out) | exact HB.out))))
                                (case aL => have := LMc15.out; omega)
                                intro v182 w17 ho hb hg hat
                                rw [← Ny181.out] at ho
                                have n0_ := iD.mk (Kd.S_after (ok := (fun k_ => k_ ≠ gb177)) (by (with_reducible repeat (first | apply Kd.S_alloc | apply Kd.S_drewN | apply Kd.S_drew)); exact Kd.S_mono HO_3.out (fun _ hk => ⟨hk.2, hk.1⟩)) hg hat)
                                have n1_ := iD.mk (mP (g := gb177) (o := .cells #[u178000, .int .i64 ((iU l0 x4_1).f1)] 139 (0, 0)) (bk_ BK177.out) hg (Kd.R_ne HO_178000.out BK177.out (by decide)))
                                have n2_ := iD.mk (hb)
                                have n3_ := iD.mk (ho)
                                clear HO_3
                                clear BK177
                                clear HB
                                clear HO_178000
                                have HO_3 := n0_
                                have BK177 := n1_
                                have HB := n2_
                                have HO183 := n3_
                                clear n0_ n1_ n2_ n3_
                                clear ho hb hg hat
                                obtain ⟨Ao18, co18, eo18⟩ := Kd.R_slice HO183.out
                                (first | subst eo18 | (injection eo18 with f1_ f2_ f3_; have f4_ := f1_.symm; have f5_ := f3_.symm; clear f1_ f2_ f3_; subst f4_; subst f5_))
                                refine hK.out _ _ ⟨(iE BK177.out 0).trans rfl, (iE BK177.out 1).trans rfl, ((HB.out.cell (World.block_lt_of_cell? w _ hw179_0)).trans hw179_0), ((HB.out.cell (World.block_lt_of_cell? w _ hw179_1)).trans hw179_1), ((HB.out.cell (World.block_lt_of_cell? w _ hw180_0)).trans hw180_0)⟩ (fun hHeld => ?_)
                                clear hK K
                                refine lI (a' := ?_) ?_ ?_
                                rotate_left
                                · show Act.put _ (some 50) _ = _
                                  simp only [Act.put, List.setIfInBounds_toArray, List.set_cons_zero, List.set_cons_succ, iY, jE]
                                  rfl
                                refine jM (i := 14) (N := some 51) (v := ?_) (a' := ?_) #[true, true, true, true, true, true, true, true, true, true, true, true, true, true, true, false] rfl rfl (jD HT_.out (by kernel_rfl)) (fun _ _ _ h => h) (Or.inl ⟨by rfl, ?_⟩) ?_ ?_
                                rotate_left
                                · intro w'
                                  go_simp
                                  with_reducible rfl
                                rotate_left
                                · simp only [Act.put, List.setIfInBounds_toArray, List.set_cons_zero, List.set_cons_succ, iY, jE]
                                  rfl
                                refine V8 (i := 15) (N := none) #[true, true, true, true, true, true, true, true, true, true, true, true, true, true, true, true] rfl rfl (lJ HT_.out (by kernel_rfl)) (by decide) (fun K hK => ?_)
                                have hs19 : w17.cell? ⟨gb177, 0, none⟩ = some (u178000) := (iE BK177.out 0).trans rfl
                                have hfs19 := iC BK177.out 0
                                refine TT (w1 := ?_) (by rfl) rfl ?_ ?_
                                rotate_left
                                · go_simp
                                  rfl
                                refine hK.out _ _ ?_
                                clear hK K
                                refine I5 (oZ HT_.out (by kernel_rfl)) ?_
                                try go_wp2
                                go_roundg k3
                                case measure => have := HK1.out; have := HJ1.out; have := HK3.out; omega
                                case rel => exact ⟨(wrap64 (x6_3 + 1)), (y181), (.slice Ao18 y181.length co18), (by first | rfl | (simp; done) | (simp [*]; done)), H', ⟨by have := HK1.out; have := HJ1.out; have := HK3.out; omega⟩, ⟨by (with_reducible repeat (first | apply Kd.S_alloc | apply Kd.S_drewN | apply Kd.S_drew)); exact Kd.S_mono (Kd.S_far (p := ⟨gb177, 0, none⟩) (Kd.S_mono HO_3.out (fun k_ hk => (⟨hk, hk.1⟩ : _ ∧ k_ ≠ gb177))) (fun _ hk => hk.2) (.slice Ao18 y181.length co18)) (fun _ hk => ⟨hk.1.2, hk.1.1⟩)⟩, ⟨by (with_reducible repeat (first | apply Kd.R_alloc | apply Kd.R_drewN | apply Kd.R_drew)); exact Kd.R_mono (Kd.R_far (p := ⟨gb177, 0, none⟩) (Kd.R_types HO183.out BK177.out (by decide)) (fun _ hk => hk.2) (.slice Ao18 y181.length co18)) (fun _ hk => trivial)⟩, ⟨by (with_reducible repeat (first | refine iK ?_ _ | refine iM ?_ | refine iJ ?_ _)); refine iW (cs := #[u178000, .int .i64 ((iU l0 x4_1).f1)]) ?_ 0 _ rfl; (with_reducible repeat (first | refine iK ?_ _ | refine iM ?_ | refine iJ ?_ _)); exact BK177.out⟩, ⟨by repeat (first | (with_reducible first | exact HB.out | apply iF | apply iG | apply iH | refine iI ?_ GE177.out) | exact HB.out)⟩⟩
                              · rw [if_neg c15] at H
                                exact absurd H (by simp)
                            · rw [if_neg c13] at H
                              exact absurd H (by simp)
                          · rw [if_neg c12] at H
                            have c12b0 : decide (x6_3 < 4) = false := decide_eq_false c12
                            clear c12
                            by_cases c20 : x3_1.length < 4398046511104
                            · rw [if_pos c20] at H
                              have LMc20 := iD.mk c20
                              clear c20
                              obtain ⟨y184, hy184⟩ : ∃ y_ : List (S139), y_ = (x3_1 ++ [(⟨x178000_3, ((iU l0 x4_1).f1)⟩ : S139)]) := ⟨_, rfl⟩
                              replace H : (stratumlaw07_Facts.l0 k3 l0 y184 (wrap64 (x4_1 + 1))) = some r := by first | (rw [hy184]; with_reducible exact H) | (have H2_ := (Option.bind_some _ _).symm.trans H; rw [hy184]; with_reducible exact H2_) | (have H2_ := (Option.bind_some _ _).symm.trans H; with_reducible exact H2_) | with_reducible exact H | (rw [hy184]; exact H) | exact H
                              have Ny184 := iD.mk hy184
                              clear hy184
                              have H' := iD.mk H
                              clear H
                              have p178 : 0 ≤ (x4_1 : Int) := of_decide_eq_true asm_
                              have q178 : x4_1 < (l0.length : Int) := of_decide_eq_true asm_
                              obtain ⟨ad178, A178_0, c178_0, e178, hx178_0, hx178_1, hl178_0, hi178_0⟩ := kG HR0.out x4_1 p178 q178
                              obtain rfl : ad176 = ad178 := (by injection e178)
                              replace hx178_0 := (HB.out.cell (World.block_lt_of_cell? w _ hx178_0)).trans hx178_0
                              replace hx178_1 := (HB.out.cell (World.block_lt_of_cell? w _ hx178_1)).trans hx178_1
                              have HR178_0 := iD.mk hi178_0
                              have HC178_0 := iD.mk hl178_0
                              clear hi178_0 hl178_0
                              replace p178 := eq_true p178
                              replace q178 := eq_true q178
                              have hcz21_0 : wr.cell? ⟨gb177, 0, none⟩ = some (u178000) := (iE BK177.out 0).trans rfl
                              have hcz21_1 : wr.cell? ⟨gb177, 1, none⟩ = some (.int .i64 ((iU l0 x4_1).f1)) := (iE BK177.out 1).trans rfl
                              have hfz21_0 := iC BK177.out 0
                              have hfz21_1 := iC BK177.out 1
                              obtain ⟨Ao23, co23, eo23⟩ := Kd.R_slice HO_178000.out
                              subst eo23
                              go_wp2_with (first | ((with_reducible refine oD (b := .append) (xs := #[.tmp 52, .tmp 54]) rfl ?_); at_builtin; refine Kd.S_append k139 (w0 := w) w.heap.size rfl (.tmp 52) (.tmp 54) 24 139 (.agg #[(.slice none 0 0), (.int .i64 0)]) 32 rfl Tryd.underlying24 QA rfl (by decide) (by omega) u3 x3_1 (⟨x178000_3, ((iU l0 x4_1).f1)⟩ : S139) [.slice Ao23 x178000_3.length co23, .int .i64 ((iU l0 x4_1).f1)] (fun k_ => k_ ≠ gb177) (fun k_ => some k_ = (.slice Ao23 x178000_3.length co23 : Value).ownBlock) rfl rfl ?aP (fun k_ hk_ => ((Kd.R_mono (ok' := fun k_ => ((fun k_ => k_ ≠ gb177)) k_ ∧ some k_ ≠ (u3 : Value).ownBlock) (Kd.R_types (Kd.R_apart' (HO_178000.out) (Kd.S_typed HO_3.out) (by decide)) BK177.out (by decide)) (fun k_ hk => ⟨hk.2, hk.1.2⟩))).1 k_ hk_.symm) ?aF ?aO ?aB ?aS ?aL ?_; (case aP => exact zZ _ _ _ (⟨x178000_3, ((iU l0 x4_1).f1)⟩ : S139) (Kd.R_mono (Kd.R_tight rfl (Kd.R_mono (ok' := fun k_ => ((fun k_ => k_ ≠ gb177)) k_ ∧ some k_ ≠ (u3 : Value).ownBlock) (Kd.R_types (Kd.R_apart' (HO_178000.out) (Kd.S_typed HO_3.out) (by decide)) BK177.out (by decide)) (fun k_ hk => ⟨hk.2, hk.1.2⟩))) (fun _ h_ => h_))); (case aB => exact (by repeat (first | (with_reducible first | exact HB.out | apply iF | apply iG | apply iH | refine iI ?_ GE177.out) | exact HB.out))); (case aF => exact (fun k_ hk => Kd.freshB (g := gb177) (o := .cells #[.slice Ao23 x178000_3.length co23, .int .i64 ((iU l0 x4_1).f1)] 139 (0, 0)) (bk_ BK177.out) k_ hk)); (case aO => exact (by (with_reducible repeat (first | apply Kd.S_alloc | apply Kd.S_drewN | apply Kd.S_drew)); exact Kd.S_mono HO_3.out (fun k_ hk => ⟨hk.2, fun e_ => hk.1 e_⟩))); (case aS => exact (iT (by repeat (first | (with_reducible first | exact HB.out | apply iF | apply iG | apply iH | refine iI ?_ GE177.out) | exact HB.out)))); (case aL => have := LMc20.out; omega); intro v185 w22 ho hb hg hat; rw [← Ny184.out] at ho; have n0_ := iD.mk (mP (g := gb177) (o := .cells #[.slice Ao23 x178000_3.length co23, .int .i64 ((iU l0 x4_1).f1)] 139 (0, 0)) (bk_ BK177.out) hg (Kd.S_away HO_3.out (fun _ hk => hk.2))); have n1_ := iD.mk (hb); have n2_ := iD.mk (ho); clear BK177; clear HB; clear HO_3; clear HO_178000; have BK177 := n0_; have HB := n1_; have HO186 := n2_; clear n0_ n1_ n2_; clear ho hb hg hat))
                              go_roundg k3
                              case measure => have := HK1.out; have := HJ1.out; have := HK3.out; omega
                              case rel => exact ⟨(y184), (wrap64 (x4_1 + 1)), (by first | rfl | (simp; done) | (simp [*]; done)), H', ⟨by have := HK1.out; have := HJ1.out; have := HK3.out; omega⟩, ⟨by (with_reducible repeat (first | apply Kd.S_alloc | apply Kd.S_drewN | apply Kd.S_drew)); exact Kd.S_mono HO186.out (fun _ hk => trivial)⟩, ⟨by repeat (first | (with_reducible first | exact HB.out | apply iF | apply iG | apply iH | refine iI ?_ GE177.out) | exact HB.out)⟩⟩
                            · rw [if_neg c20] at H
                              exact absurd H (by simp)
                        · rw [if_neg c11] at H
                          have c11b0 : decide (x6_3 < (((iU l0 x4_1).f0).length : Int)) = false := decide_eq_false c11
                          clear c11
                          by_cases c24 : x3_1.length < 4398046511104
                          · rw [if_pos c24] at H
                            have LMc24 := iD.mk c24
                            clear c24
                            obtain ⟨y187, hy187⟩ : ∃ y_ : List (S139), y_ = (x3_1 ++ [(⟨x178000_3, ((iU l0 x4_1).f1)⟩ : S139)]) := ⟨_, rfl⟩
                            replace H : (stratumlaw07_Facts.l0 k3 l0 y187 (wrap64 (x4_1 + 1))) = some r := by first | (rw [hy187]; with_reducible exact H) | (have H2_ := (Option.bind_some _ _).symm.trans H; rw [hy187]; with_reducible exact H2_) | (have H2_ := (Option.bind_some _ _).symm.trans H; with_reducible exact H2_) | with_reducible exact H | (rw [hy187]; exact H) | exact H
                            have Ny187 := iD.mk hy187
                            clear hy187
                            have H' := iD.mk H
                            clear H
                            have p178 : 0 ≤ (x4_1 : Int) := of_decide_eq_true asm_
                            have q178 : x4_1 < (l0.length : Int) := of_decide_eq_true asm_
                            obtain ⟨ad178, A178_0, c178_0, e178, hx178_0, hx178_1, hl178_0, hi178_0⟩ := kG HR0.out x4_1 p178 q178
                            obtain rfl : ad176 = ad178 := (by injection e178)
                            replace hx178_0 := (HB.out.cell (World.block_lt_of_cell? w _ hx178_0)).trans hx178_0
                            replace hx178_1 := (HB.out.cell (World.block_lt_of_cell? w _ hx178_1)).trans hx178_1
                            have HR178_0 := iD.mk hi178_0
                            have HC178_0 := iD.mk hl178_0
                            clear hi178_0 hl178_0
                            replace p178 := eq_true p178
                            replace q178 := eq_true q178
                            have hcz25_0 : wr.cell? ⟨gb177, 0, none⟩ = some (u178000) := (iE BK177.out 0).trans rfl
                            have hcz25_1 : wr.cell? ⟨gb177, 1, none⟩ = some (.int .i64 ((iU l0 x4_1).f1)) := (iE BK177.out 1).trans rfl
                            have hfz25_0 := iC BK177.out 0
                            have hfz25_1 := iC BK177.out 1
                            obtain ⟨Ao27, co27, eo27⟩ := Kd.R_slice HO_178000.out
                            subst eo27
                            go_wp2_with (first | ((with_reducible refine oD (b := .append) (xs := #[.tmp 52, .tmp 54]) rfl ?_); at_builtin; refine Kd.S_append k139 (w0 := w) w.heap.size rfl (.tmp 52) (.tmp 54) 24 139 (.agg #[(.slice none 0 0), (.int .i64 0)]) 32 rfl Tryd.underlying24 QA rfl (by decide) (by omega) u3 x3_1 (⟨x178000_3, ((iU l0 x4_1).f1)⟩ : S139) [.slice Ao27 x178000_3.length co27, .int .i64 ((iU l0 x4_1).f1)] (fun k_ => k_ ≠ gb177) (fun k_ => some k_ = (.slice Ao27 x178000_3.length co27 : Value).ownBlock) rfl rfl ?aP (fun k_ hk_ => ((Kd.R_mono (ok' := fun k_ => ((fun k_ => k_ ≠ gb177)) k_ ∧ some k_ ≠ (u3 : Value).ownBlock) (Kd.R_types (Kd.R_apart' (HO_178000.out) (Kd.S_typed HO_3.out) (by decide)) BK177.out (by decide)) (fun k_ hk => ⟨hk.2, hk.1.2⟩))).1 k_ hk_.symm) ?aF ?aO ?aB ?aS ?aL ?_; (case aP => exact zZ _ _ _ (⟨x178000_3, ((iU l0 x4_1).f1)⟩ : S139) (Kd.R_mono (Kd.R_tight rfl (Kd.R_mono (ok' := fun k_ => ((fun k_ => k_ ≠ gb177)) k_ ∧ some k_ ≠ (u3 : Value).ownBlock) (Kd.R_types (Kd.R_apart' (HO_178000.out) (Kd.S_typed HO_3.out) (by decide)) BK177.out (by decide)) (fun k_ hk => ⟨hk.2, hk.1.2⟩))) (fun _ h_ => h_))); (case aB => exact (by repeat (first | (with_reducible first | exact HB.out | apply iF | apply iG | apply iH | refine iI ?_ GE177.out) | exact HB.out))); (case aF => exact (fun k_ hk => Kd.freshB (g := gb177) (o := .cells #[.slice Ao27 x178000_3.length co27, .int .i64 ((iU l0 x4_1).f1)] 139 (0, 0)) (bk_ BK177.out) k_ hk)); (case aO => exact (by (with_reducible repeat (first | apply Kd.S_alloc | apply Kd.S_drewN | apply Kd.S_drew)); exact Kd.S_mono HO_3.out (fun k_ hk => ⟨hk.2, fun e_ => hk.1 e_⟩))); (case aS => exact (iT (by repeat (first | (with_reducible first | exact HB.out | apply iF | apply iG | apply iH | refine iI ?_ GE177.out) | exact HB.out)))); (case aL => have := LMc24.out; omega); intro v188 w26 ho hb hg hat; rw [← Ny187.out] at ho; have n0_ := iD.mk (mP (g := gb177) (o := .cells #[.slice Ao27 x178000_3.length co27, .int .i64 ((iU l0 x4_1).f1)] 139 (0, 0)) (bk_ BK177.out) hg (Kd.S_away HO_3.out (fun _ hk => hk.2))); have n1_ := iD.mk (hb); have n2_ := iD.mk (ho); clear BK177; clear HB; clear HO_3; clear HO_178000; have BK177 := n0_; have HB := n1_; have HO189 := n2_; clear n0_ n1_ n2_; clear ho hb hg hat))
                            go_roundg k3
                            case measure => have := HK1.out; have := HJ1.out; have := HK3.out; omega
                            case rel => exact ⟨(y187), (wrap64 (x4_1 + 1)), (by first | rfl | (simp; done) | (simp [*]; done)), H', ⟨by have := HK1.out; have := HJ1.out; have := HK3.out; omega⟩, ⟨by (with_reducible repeat (first | apply Kd.S_alloc | apply Kd.S_drewN | apply Kd.S_drew)); exact Kd.S_mono HO189.out (fun _ hk => trivial)⟩, ⟨by repeat (first | (with_reducible first | exact HB.out | apply iF | apply iG | apply iH | refine iI ?_ GE177.out) | exact HB.out)⟩⟩
                          · rw [if_neg c24] at H
                            exact absurd H (by simp)
                      · rw [if_neg c10] at H
                        exact absurd H (by simp)
                    · rw [if_neg c9] at H
                      exact absurd H (by simp)
              · rw [if_neg c6] at H
                exact absurd H (by simp)
            · rw [if_neg c5] at H
              exact absurd H (by simp)
          · replace c4 := Bool.eq_false_iff.mpr c4
            subst c4
            have H1 : (some x3_1) = some r := by rw [if_neg (show ¬ (false = true) by decide)] at H; exact H
            clear H
            have H := H1
            clear H1
            obtain rfl := Option.some.inj H
            go_wp2
            go_ret
            exact ⟨_, by first | rfl | (simp [iQ, iR] <;> rfl) | (simp [*, iQ, iR] <;> rfl), by (with_reducible repeat (first | apply Kd.S_alloc | apply Kd.S_drewN | apply Kd.S_drew)); exact HO_3.out, hb_⟩
theorem stratumlaw07_Facts.calls (k : Nat) (A0 : Option Addr) (c0 : Nat) (l0 : List (S139)) (r : List (S139)) (w : World) (hr0 : Kd.C k139 w A0 l0.length l0) (hc0 : l0.length ≤ c0) (h : stratumlaw07_Facts.f k l0 = some r) :
    Calls Tryd.prog 73 #[.slice A0 l0.length c0] w fun e w' => ∃ v0_ : Value, e = .returned (v0_) ∧ Kd.R k139 139 w' w.heap.size (fun _ => True) v0_ r ∧ Below w.heap.size w w' :=
  (stratumlaw07_Facts.callsS k A0 c0 l0 r w hr0 hc0 h).mono fun _ _ ⟨v, he, hs, hb⟩ => ⟨v, he, Kd.S_R hs, hb⟩
end Go.Proofs.YtgfkgppomaapiaaDoor.K
end
