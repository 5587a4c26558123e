/- Parts of the proof, one behind the other: K37, SpQ, SpW1, Came, CameS, CameP. -/
import Derived.Test.YtbpdejbkfpkphaaQSpansNew5
import Derived.Test.YtbpdejbkfpkphaaRows
import Derived.Deep.Slices
import Derived.ChangeSame
set_option linter.unusedVariables false
set_option linter.unusedSimpArgs false
section
-- from K37
namespace Go.Proofs.Ytbpdejbkfpkphaa.K
open Go.RowKit Go.Proofs.YtbpdejbkfpkphaaW.PrintWords Go.Proofs.YtbpdejbkfpkphaaW.PrintLast Go.Proofs.YtbpdejbkfpkphaaW.PrintMore
attribute [local go_sem] max2_int min2_int max_two min_two max_three min_three max_four min_four
set_option linter.unusedVariables false
set_option linter.unusedSimpArgs false
mutual
def stratumlaw12_SpansNew.j0 : Nat → Int → List (S77) → Bool → Option (Bool)
  | 0, _, _, _ => none
  | k + 1, x0, x1, x15 => if x15 = true then ((stratumlaw12_known.f k).bind fun t307 => (some t307)) else ((spans_New.f).bind fun bt308 => (stratumlaw12_SpansNew.l0 k x0 x1 0 0 bt308.1 bt308.2))
def stratumlaw12_SpansNew.l0 : Nat → Int → List (S77) → Int → Int → Int → List (S60) → Option (Bool)
  | 0, _, _, _, _, _, _ => none
  | k + 1, x0, x1, x6, x7, x313000, x313001 => if x7 < (x1.length : Int) then (if 0 ≤ x7 then (if (((rd_T77 x1 x7).f0).length : Int) > 0 then (if 0 < (((rd_T77 x1 x7).f0).length : Int) then (if (rd ((rd_T77 x1 x7).f0) 0) ≥ 0 then (stratumlaw12_SpansNew.l0 k x0 x1 (wrap64 (x6 + 1)) (wrap64 (x7 + 1)) x313000 x313001) else (stratumlaw12_SpansNew.l0 k x0 x1 x6 (wrap64 (x7 + 1)) x313000 x313001)) else (none)) else (stratumlaw12_SpansNew.l0 k x0 x1 x6 (wrap64 (x7 + 1)) x313000 x313001)) else (none)) else ((spans_Nodes.f x313000 x313001 (wrap64 (Int.tmod x0 1000)) (wrap64 ((wrap64 (Int.tmod x0 1000)) + 1))).bind fun t316 => (if x313000 = 1 then ((spans_Find.f x313000 x313001 (wrap64 (x0))).bind fun t319 => (if t319 = 0 then ((spans_Find.f x313000 x313001 (-1)).bind fun t320 => (if t320 = (-1) then (if (t316.length : Int) = 1 then (if 0 < (t316.length : Int) then (if (rd t316 0) = 0 then ((spans_Parts.f k x313000 x313001 x1 0).bind fun t322 => (if (t322.length : Int) = x6 then ((spans_Parts.f k x313000 x313001 x1 1).bind fun t325 => (if (t325.length : Int) = 0 then ((spans_Sound.f k x313000 x313001 1 1).bind fun t328 => (some t328)) else (some false))) else (some false))) else (some false)) else (none)) else (some false)) else (some false))) else (some false))) else (some false)))
end
def stratumlaw12_SpansNew.f (k : Nat) (a0 : Int) (l1 : List (S77)) : Option (Bool) := if (l1.length : Int) > 100 then (stratumlaw12_SpansNew.j0 k a0 l1 true) else ((stratumlaw12_known.f k).bind fun t306 => (stratumlaw12_SpansNew.j0 k a0 l1 (!t306)))
theorem stratumlaw12_SpansNew.mono_l : ∀ k, (∀ y0 y1 y2, LeO (stratumlaw12_SpansNew.j0 k y0 y1 y2) (stratumlaw12_SpansNew.j0 (k + 1) y0 y1 y2)) ∧ (∀ y0 y1 y2 y3 y4 y5, LeO (stratumlaw12_SpansNew.l0 k y0 y1 y2 y3 y4 y5) (stratumlaw12_SpansNew.l0 (k + 1) y0 y1 y2 y3 y4 y5))
  | 0 => ⟨fun _ _ _ r h => by simp [stratumlaw12_SpansNew.j0] at h, fun _ _ _ _ _ _ r h => by simp [stratumlaw12_SpansNew.l0] at h⟩
  | k + 1 => by
    obtain ⟨ih0, ih1⟩ := stratumlaw12_SpansNew.mono_l k
    refine ⟨?_, ?_⟩
    · intro y0 y1 y2
      unfold stratumlaw12_SpansNew.j0
      repeat' first
      | (with_reducible exact ih0 _ _ _)
      | (with_reducible exact ih1 _ _ _ _ _ _)
      | (with_reducible exact spans_Parts.mono _ _ _ _ _)
      | (with_reducible exact spans_Sound.mono _ _ _ _ _)
      | (with_reducible exact stratumlaw12_known.mono _)
      | (with_reducible exact LeO.refl _)
      | (with_reducible exact LeO.none _)
      | (with_reducible refine LeO.ite ?_ ?_)
      | (with_reducible refine LeO.bind ?_ (fun _ => ?_))
      | exact ih0 _ _ _
      | exact ih1 _ _ _ _ _ _
      | exact spans_Parts.mono _ _ _ _ _
      | exact spans_Sound.mono _ _ _ _ _
      | exact stratumlaw12_known.mono _
      | exact LeO.none _
      | refine LeO.ite ?_ ?_
      | refine LeO.bind ?_ (fun _ => ?_)
    · intro y0 y1 y2 y3 y4 y5
      unfold stratumlaw12_SpansNew.l0
      repeat' first
      | (with_reducible exact ih0 _ _ _)
      | (with_reducible exact ih1 _ _ _ _ _ _)
      | (with_reducible exact spans_Parts.mono _ _ _ _ _)
      | (with_reducible exact spans_Sound.mono _ _ _ _ _)
      | (with_reducible exact stratumlaw12_known.mono _)
      | (with_reducible exact LeO.refl _)
      | (with_reducible exact LeO.none _)
      | (with_reducible refine LeO.ite ?_ ?_)
      | (with_reducible refine LeO.bind ?_ (fun _ => ?_))
      | exact ih0 _ _ _
      | exact ih1 _ _ _ _ _ _
      | exact spans_Parts.mono _ _ _ _ _
      | exact spans_Sound.mono _ _ _ _ _
      | exact stratumlaw12_known.mono _
      | exact LeO.none _
      | refine LeO.ite ?_ ?_
      | refine LeO.bind ?_ (fun _ => ?_)
theorem stratumlaw12_SpansNew.mono : ∀ a0 a1 k, LeO (stratumlaw12_SpansNew.f k a0 a1) (stratumlaw12_SpansNew.f (k + 1) a0 a1) := by
  intro a0 a1 k
  obtain ⟨ih0, ih1⟩ := stratumlaw12_SpansNew.mono_l k
  unfold stratumlaw12_SpansNew.f
  repeat' first
      | (with_reducible exact ih0 _ _ _)
      | (with_reducible exact ih1 _ _ _ _ _ _)
      | (with_reducible exact spans_Parts.mono _ _ _ _ _)
      | (with_reducible exact spans_Sound.mono _ _ _ _ _)
      | (with_reducible exact stratumlaw12_known.mono _)
      | (with_reducible exact LeO.refl _)
      | (with_reducible exact LeO.none _)
      | (with_reducible refine LeO.ite ?_ ?_)
      | (with_reducible refine LeO.bind ?_ (fun _ => ?_))
      | exact ih0 _ _ _
      | exact ih1 _ _ _ _ _ _
      | exact spans_Parts.mono _ _ _ _ _
      | exact spans_Sound.mono _ _ _ _ _
      | exact stratumlaw12_known.mono _
      | exact LeO.none _
      | refine LeO.ite ?_ ?_
      | refine LeO.bind ?_ (fun _ => ?_)
set_option maxHeartbeats 8000000 in
set_option maxRecDepth 100000 in
theorem stratumlaw12_SpansNew.calls (k : Nat) (a0 : Int) (A1 : Option Addr) (c1 : Nat) (l1 : List (S77)) (r : Bool) (w : World) (hr1 : Kd.C k77 w A1 l1.length l1) (hc1 : l1.length ≤ c1) (h : stratumlaw12_SpansNew.f k a0 l1 = some r) :
    Calls Try.prog 13 #[.int .u16 a0, .slice A1 l1.length c1] w fun e w' => e = .returned (.bool r) ∧ Below w.heap.size w w' := by
  have hu42 := Try.underlying42
  have HR1 := Aside0.mk hr1
  have HC1 := Aside0.mk hc1
  clear hr1 hc1
  have HB := Aside0.mk (Below.refl w.heap.size w)
  have H : (if (l1.length : Int) > 100 then (stratumlaw12_SpansNew.j0 k a0 l1 true) else ((stratumlaw12_known.f k).bind fun t306 => (stratumlaw12_SpansNew.j0 k a0 l1 (!t306)))) = some r := h
  clear h
  have HC3 := Aside0.mk H
  clear H
  go_enter Try.func13, Try.ntmps13
  go_upto_region 1 with (fail)
  go_cut [15] (fun v15 wc => ∃ (kq : Nat) (x15_2 : Bool), v15 = .bool x15_2 ∧ Aside0 (stratumlaw12_SpansNew.j0 kq a0 l1 x15_2 = some r) ∧ Aside0 (kq ≤ k) ∧ Aside0 (Below w.heap.size w wc))
  case first =>
    have H := HC3.out
    clear HC3
    by_cases c4 : (l1.length : Int) > 100
    · rw [if_pos c4] at H
      have c4b0 : decide (100 < (l1.length : Int)) = true := decide_eq_true c4
      have c4b1 : decide (100 < l1.length) = true := decide_eq_true (by omega)
      clear c4
      (first | rw [c4b0] | (simp only [i64_w, i32_w]; rw [c4b0]) | skip)
      have H' := Aside0.mk H
      clear H
      go_wp2
      go_meet
      case rel => exact ⟨_, (true), (by first | rfl | (simp; done) | (simp [*]; done)), H', ⟨by first | omega | exact Nat.le_refl _⟩, ⟨by repeat (first | (with_reducible first | exact HB.out | apply below_alloc | apply pw_below_drewN | apply below_drew1) | exact HB.out)⟩⟩
    · rw [if_neg c4] at H
      have c4b0 : decide (100 < (l1.length : Int)) = false := decide_eq_false c4
      have c4b1 : decide (100 < l1.length) = false := decide_eq_false (by omega)
      clear c4
      (first | rw [c4b0] | (simp only [i64_w, i32_w]; rw [c4b0]) | skip)
      replace H := Option.bind_eq_some_iff.mp H
      obtain ⟨t306, A50, H⟩ := H
      replace H : (stratumlaw12_SpansNew.j0 k a0 l1 (!t306)) = some r := H
      have A5 := Aside0.mk A50
      clear A50
      have H' := Aside0.mk H
      clear H
      go_wp2_with (first | (go_at_call 29; (with_reducible refine (stratumlaw12_known.calls k  t306 _ A5.out).mono ?_); rintro e w6 ⟨rfl, hb⟩; have n0_ := Aside0.mk (below_step (by repeat (first | (with_reducible first | exact HB.out | apply below_alloc | apply pw_below_drewN | apply below_drew1) | exact HB.out)) hb); clear HB; have HB := n0_; clear n0_; (try clear hb); (try clear hb2); (try clear hk); (try clear hi)))
      go_meet
      case rel => exact ⟨_, (!t306), (by first | rfl | (simp; done) | (simp [*]; done)), H', ⟨by first | omega | exact Nat.le_refl _⟩, ⟨by repeat (first | (with_reducible first | exact HB.out | apply below_alloc | apply pw_below_drewN | apply below_drew1) | exact HB.out)⟩⟩
  case rest =>
    clear HC3
    try clear c1
    try clear p2
    try clear c4
    try clear c4b0
    try clear c4b1
    obtain ⟨kq, x15_2, rfl, HA, HJ2, HB⟩ := hcut
    cases kq with
    | zero => exact absurd HA.out (by simp [stratumlaw12_SpansNew.j0])
    | succ kj2 =>
      have H := HA.out
      clear HA
      simp only [stratumlaw12_SpansNew.j0] at H
      by_cases c7 : x15_2 = true
      · subst c7
        have H1 : ((stratumlaw12_known.f kj2).bind fun t307 => (some t307)) = some r := by rw [if_pos rfl] at H; exact H
        clear H
        have H := H1
        clear H1
        replace H := Option.bind_eq_some_iff.mp H
        obtain ⟨t307, A80, H⟩ := H
        replace H : (some t307) = some r := H
        have A8 := Aside0.mk A80
        clear A80
        obtain rfl := Option.some.inj H
        go_wp2_with (first | ((with_reducible refine gate_callee (f := 29) rfl ?_); refine goesL_ (some 16) rfl rfl Try.func29 (by kernel_rfl) rfl #[] rfl (by (try simp only [List.map_toArray, List.map_cons, List.map_nil]); first | done | rfl | (simp only [List.length_drop, List.length_take]; rfl)) ?_; (with_reducible refine (stratumlaw12_known.calls kj2  t307 _ A8.out).mono ?_); rintro e w9 ⟨rfl, hb⟩; refine ⟨_, rfl, ?_⟩; have n0_ := Aside0.mk (below_step (by repeat (first | (with_reducible first | exact HB.out | apply below_alloc | apply pw_below_drewN | apply below_drew1) | exact HB.out)) hb); clear HB; have HB := n0_; clear n0_; (try clear hb); (try clear hb2); (try clear hk); (try clear hi)))
        go_ret
        exact ⟨by first | rfl | (simp [errW_none, errW_some] <;> rfl) | (simp [*, errW_none, errW_some] <;> rfl), by repeat (first | (with_reducible first | exact HB.out | apply below_alloc | apply pw_below_drewN | apply below_drew1) | exact HB.out)⟩
      · replace c7 := Bool.eq_false_iff.mpr c7
        subst c7
        have H1 : ((spans_New.f).bind fun bt308 => (stratumlaw12_SpansNew.l0 kj2 a0 l1 0 0 bt308.1 bt308.2)) = some r := by rw [if_neg (show ¬ (false = true) by decide)] at H; exact H
        clear H
        have H := H1
        clear H1
        replace H := Option.bind_eq_some_iff.mp H
        obtain ⟨⟨t308, t309⟩, A100, H⟩ := H
        replace H : (stratumlaw12_SpansNew.l0 kj2 a0 l1 0 0 t308 t309) = some r := H
        have A10 := Aside0.mk A100
        clear A100
        have H' := Aside0.mk H
        clear H
        go_wp2_with (first | ((with_reducible refine gate_callee (f := 44) rfl ?_); refine goesL_ (some 17) rfl rfl Try.func44 (by kernel_rfl) rfl #[] rfl (by (try simp only [List.map_toArray, List.map_cons, List.map_nil]); first | done | rfl | (simp only [List.length_drop, List.length_take]; rfl)) ?_; (with_reducible refine (spans_New.calls  t308 t309 _ A10.out).mono ?_); rintro e w11 ⟨v310, rfl, ho0, hb⟩; refine ⟨_, rfl, ?_⟩; have n0_ := Aside0.mk (Kd.R_lower ho0 (below_size (by repeat (first | (with_reducible first | exact HB.out | apply below_alloc | apply pw_below_drewN | apply below_drew1) | exact HB.out)))); have n1_ := Aside0.mk (below_step (by repeat (first | (with_reducible first | exact HB.out | apply below_alloc | apply pw_below_drewN | apply below_drew1) | exact HB.out)) hb); clear HB; have HO311 := n0_; have HB := n1_; clear n0_ n1_; (try clear hb); (try clear hb2); (try clear hk); (try clear hi); (try clear ho0)) | ((with_reducible refine gate_dst (N := 5) rfl ?_); (try (refine gate_guard (by rfl) ?_; dsimp only)); refine box_event ?hg (N := 5) ?hd (cs := #[.int .u32 0, .slice none 0 0]) (t := 42) ?hr ?_; (case hd => rfl); (case hg => rfl); (case hr => first | (go_simp; done) | (go_simp; rfl)); intro gb312 hg w12 hbox hb; have n0_ := Aside0.mk (Kd.R_below (by (with_reducible repeat (first | apply Kd.R_alloc | apply Kd.R_drewN | apply Kd.R_drew)); exact HO311.out) hb); have n1_ := Aside0.mk (below_step (by repeat (first | (with_reducible first | exact HB.out | apply below_alloc | apply pw_below_drewN | apply below_drew1) | exact HB.out)) hb); have n2_ := Aside0.mk (hbox); have n3_ := Aside0.mk ((by rw [hg]; exact (below_size (by repeat (first | (with_reducible first | exact HB.out | apply below_alloc | apply pw_below_drewN | apply below_drew1) | exact HB.out))) : w.heap.size ≤ gb312)); have n4_ := Aside0.mk ((by rw [hg]; exact (below_size (by repeat (first | (with_reducible first | exact HB.out | apply below_alloc | apply pw_below_drewN | apply below_drew1) | exact HB.out))) : w.heap.size ≤ gb312)); clear HO311; clear HB; have HO311 := n0_; have HB := n1_; have BK312 := n2_; have GW312 := n3_; have GE312 := n4_; clear n0_ n1_ n2_ n3_ n4_; clear hb hbox hg; have hcz13_0 : w12.cell? ⟨gb312, 0, none⟩ = some (.int .u32 0) := (blk_cell BK312.out 0).trans rfl; have hcz13_1 : w12.cell? ⟨gb312, 1, none⟩ = some (.slice none 0 0) := (blk_cell BK312.out 1).trans rfl; have hfz13_0 := blk_frozen BK312.out 0; have hfz13_1 := blk_frozen BK312.out 1; obtain ⟨Ao14, co14, eo14⟩ := Kd.R_slice HO311.out; subst eo14))
        go_loopg [6, 7] kj2 (fun kq v6 v7 w' => ∃ (x6_2 : Int) (x7_2 : Int), v6 = .int .i64 x6_2 ∧ v7 = .int .i64 x7_2 ∧ Aside0 (stratumlaw12_SpansNew.l0 kq a0 l1 x6_2 x7_2 t308 t309 = some r) ∧ Aside0 (kq ≤ kj2) ∧ Aside0 (Kd.R k60 60 w' w.heap.size (fun _ => True) (.slice Ao14 t309.length co14) t309) ∧ Aside0 (w'.heap[gb312]? = some (.cells #[.int .u32 t308, (.slice Ao14 t309.length co14)] 42 (0, 0))) ∧ Aside0 (Below w.heap.size w w'))
        case atStart => exact ⟨(0), (0), (by first | rfl | (simp; done) | (simp [*]; done)), (by first | rfl | (simp; done) | (simp [*]; done)), H', ⟨Nat.le_refl _⟩, ⟨by (with_reducible repeat (first | apply Kd.R_alloc | apply Kd.R_drewN | apply Kd.R_drew)); exact Kd.R_mono (Kd.R_far (p := ⟨gb312, 1, none⟩) (Kd.R_far (p := ⟨gb312, 0, none⟩) (Kd.R_types HO311.out BK312.out (by decide)) (fun _ hk => hk.2) (.int .u32 t308)) (fun _ hk => hk.2) (.slice Ao14 t309.length co14)) (fun _ hk => trivial)⟩, ⟨by (with_reducible repeat (first | refine blk_drewN ?_ _ | refine blk_drew ?_ | refine blk_alloc ?_ _)); refine blk_put (cs := #[.int .u32 t308, .slice none 0 0]) ?_ 1 _ rfl; (with_reducible repeat (first | refine blk_drewN ?_ _ | refine blk_drew ?_ | refine blk_alloc ?_ _)); refine blk_put (cs := #[.int .u32 0, .slice none 0 0]) ?_ 0 _ rfl; (with_reducible repeat (first | refine blk_drewN ?_ _ | refine blk_drew ?_ | refine blk_alloc ?_ _)); exact BK312.out⟩, ⟨by repeat (first | (with_reducible first | exact HB.out | apply below_alloc | apply pw_below_drewN | apply below_drew1 | refine below_set ?_ GE312.out) | exact HB.out)⟩⟩
        case round =>
          clear H'
          try clear c1
          try clear c2
          try clear p2
          try clear c4
          try clear c4b0
          try clear c4b1
          try clear c7
          try clear c13
          try clear hcz13_0
          try clear hcz13_1
          try clear hfz13_0
          try clear hfz13_1
          try clear p2
          obtain ⟨x6_2, x7_2, rfl, rfl, HA, HK2, HO_313001, BK312, HB⟩ := hrel
          cases gk with
          | zero => exact absurd HA.out (by simp [stratumlaw12_SpansNew.l0])
          | succ k2 =>
            have H := HA.out
            clear HA
            simp only [stratumlaw12_SpansNew.l0] at H
            by_cases c15 : x7_2 < (l1.length : Int)
            · rw [if_pos c15] at H
              have c15b0 : decide (x7_2 < (l1.length : Int)) = true := decide_eq_true c15
              clear c15
              by_cases c16 : 0 ≤ x7_2
              · rw [if_pos c16] at H
                have c16b0 : decide (0 ≤ x7_2) = true := decide_eq_true c16
                clear c16
                by_cases c17 : (((rd_T77 l1 x7_2).f0).length : Int) > 0
                · rw [if_pos c17] at H
                  have c17b0 : decide (0 < (((rd_T77 l1 x7_2).f0).length : Int)) = true := decide_eq_true c17
                  have c17b1 : decide (0 < ((rd_T77 l1 x7_2).f0).length) = true := decide_eq_true (by omega)
                  clear c17
                  by_cases c18 : 0 < (((rd_T77 l1 x7_2).f0).length : Int)
                  · rw [if_pos c18] at H
                    have c18b0 : decide (0 < (((rd_T77 l1 x7_2).f0).length : Int)) = true := decide_eq_true c18
                    have c18b1 : decide (0 < ((rd_T77 l1 x7_2).f0).length) = true := decide_eq_true (by omega)
                    clear c18
                    by_cases c19 : (rd ((rd_T77 l1 x7_2).f0) 0) ≥ 0
                    · rw [if_pos c19] at H
                      have c19b0 : decide (0 ≤ (rd ((rd_T77 l1 x7_2).f0) 0)) = true := decide_eq_true c19
                      clear c19
                      have H' := Aside0.mk H
                      clear H
                      have p313 : 0 ≤ (x7_2 : Int) := of_decide_eq_true (by first | (with_reducible assumption) | assumption)
                      have q313 : x7_2 < (l1.length : Int) := of_decide_eq_true (by first | (with_reducible assumption) | assumption)
                      obtain ⟨ad313, A313_0, c313_0, e313, hx313_0, hx313_1, hl313_0, hi313_0⟩ := at_T77 HR1.out x7_2 p313 q313
                      cases e313
                      replace hx313_0 := (HB.out.cell (World.block_lt_of_cell? w _ hx313_0)).trans hx313_0
                      replace hx313_1 := (HB.out.cell (World.block_lt_of_cell? w _ hx313_1)).trans hx313_1
                      have HR313_0 := Aside0.mk hi313_0
                      have HC313_0 := Aside0.mk hl313_0
                      clear hi313_0 hl313_0
                      replace p313 := eq_true p313
                      replace q313 := eq_true q313
                      have p314 : 0 ≤ (x7_2 : Int) := of_decide_eq_true (by first | (with_reducible assumption) | assumption)
                      have q314 : x7_2 < (l1.length : Int) := of_decide_eq_true (by first | (with_reducible assumption) | assumption)
                      obtain ⟨ad314, A314_0, c314_0, e314, hx314_0, hx314_1, hl314_0, hi314_0⟩ := at_T77 HR1.out x7_2 p314 q314
                      obtain rfl : ad313 = ad314 := (by injection e314)
                      replace hx314_0 := (HB.out.cell (World.block_lt_of_cell? w _ hx314_0)).trans hx314_0
                      replace hx314_1 := (HB.out.cell (World.block_lt_of_cell? w _ hx314_1)).trans hx314_1
                      have HR314_0 := Aside0.mk hi314_0
                      have HC314_0 := Aside0.mk hl314_0
                      clear hi314_0 hl314_0
                      replace p314 := eq_true p314
                      replace q314 := eq_true q314
                      have ea_ := Option.some.inj (hx313_0.symm.trans hx314_0)
                      injection ea_ with ea_ en_ ec_
                      subst ea_
                      subst ec_
                      clear en_
                      have p315 : 0 ≤ (0 : Int) := (by omega)
                      have q315 : 0 < (((rd_T77 l1 x7_2).f0).length : Int) := of_decide_eq_true (by first | (with_reducible assumption) | assumption)
                      obtain ⟨ad315, e315, hx315_0⟩ := Kd.at_int HR314_0.out 0 p315 q315
                      cases e315
                      have qi315 : (0 < ((rd_T77 l1 x7_2).f0).length) = True := eq_true (by omega)
                      (try rw [show ((0 : Int)).toNat = 0 from rfl] at hx315_0)
                      (try rw [Addr.add_zero'] at hx315_0)
                      replace hx315_0 := (HB.out.cell (World.block_lt_of_cell? w _ hx315_0)).trans hx315_0
                      replace p315 := eq_true p315
                      replace q315 := eq_true q315
                      go_wp2
                      go_roundg k2
                      case measure => have := HJ2.out; have := HK2.out; omega
                      case rel => exact ⟨(wrap64 (x6_2 + 1)), (wrap64 (x7_2 + 1)), (by first | rfl | (simp; done) | (simp [*]; done)), (by first | rfl | (simp; done) | (simp [*]; done)), H', ⟨by have := HJ2.out; have := HK2.out; omega⟩, ⟨by (with_reducible repeat (first | apply Kd.R_alloc | apply Kd.R_drewN | apply Kd.R_drew)); exact HO_313001.out⟩, ⟨by (with_reducible repeat (first | refine blk_drewN ?_ _ | refine blk_drew ?_ | refine blk_alloc ?_ _)); exact BK312.out⟩, ⟨by repeat (first | (with_reducible first | exact HB.out | apply below_alloc | apply pw_below_drewN | apply below_drew1 | refine below_set ?_ GE312.out) | exact HB.out)⟩⟩
                    · rw [if_neg c19] at H
                      have c19b0 : decide (0 ≤ (rd ((rd_T77 l1 x7_2).f0) 0)) = false := decide_eq_false c19
                      clear c19
                      have H' := Aside0.mk H
                      clear H
                      have p313 : 0 ≤ (x7_2 : Int) := of_decide_eq_true (by first | (with_reducible assumption) | assumption)
                      have q313 : x7_2 < (l1.length : Int) := of_decide_eq_true (by first | (with_reducible assumption) | assumption)
                      obtain ⟨ad313, A313_0, c313_0, e313, hx313_0, hx313_1, hl313_0, hi313_0⟩ := at_T77 HR1.out x7_2 p313 q313
                      cases e313
                      replace hx313_0 := (HB.out.cell (World.block_lt_of_cell? w _ hx313_0)).trans hx313_0
                      replace hx313_1 := (HB.out.cell (World.block_lt_of_cell? w _ hx313_1)).trans hx313_1
                      have HR313_0 := Aside0.mk hi313_0
                      have HC313_0 := Aside0.mk hl313_0
                      clear hi313_0 hl313_0
                      replace p313 := eq_true p313
                      replace q313 := eq_true q313
                      have p314 : 0 ≤ (x7_2 : Int) := of_decide_eq_true (by first | (with_reducible assumption) | assumption)
                      have q314 : x7_2 < (l1.length : Int) := of_decide_eq_true (by first | (with_reducible assumption) | assumption)
                      obtain ⟨ad314, A314_0, c314_0, e314, hx314_0, hx314_1, hl314_0, hi314_0⟩ := at_T77 HR1.out x7_2 p314 q314
                      obtain rfl : ad313 = ad314 := (by injection e314)
                      replace hx314_0 := (HB.out.cell (World.block_lt_of_cell? w _ hx314_0)).trans hx314_0
                      replace hx314_1 := (HB.out.cell (World.block_lt_of_cell? w _ hx314_1)).trans hx314_1
                      have HR314_0 := Aside0.mk hi314_0
                      have HC314_0 := Aside0.mk hl314_0
                      clear hi314_0 hl314_0
                      replace p314 := eq_true p314
                      replace q314 := eq_true q314
                      have ea_ := Option.some.inj (hx313_0.symm.trans hx314_0)
                      injection ea_ with ea_ en_ ec_
                      subst ea_
                      subst ec_
                      clear en_
                      have p315 : 0 ≤ (0 : Int) := (by omega)
                      have q315 : 0 < (((rd_T77 l1 x7_2).f0).length : Int) := of_decide_eq_true (by first | (with_reducible assumption) | assumption)
                      obtain ⟨ad315, e315, hx315_0⟩ := Kd.at_int HR314_0.out 0 p315 q315
                      cases e315
                      have qi315 : (0 < ((rd_T77 l1 x7_2).f0).length) = True := eq_true (by omega)
                      (try rw [show ((0 : Int)).toNat = 0 from rfl] at hx315_0)
                      (try rw [Addr.add_zero'] at hx315_0)
                      replace hx315_0 := (HB.out.cell (World.block_lt_of_cell? w _ hx315_0)).trans hx315_0
                      replace p315 := eq_true p315
                      replace q315 := eq_true q315
                      go_wp2
                      go_roundg k2
                      case measure => have := HJ2.out; have := HK2.out; omega
                      case rel => exact ⟨(x6_2), (wrap64 (x7_2 + 1)), (by first | rfl | (simp; done) | (simp [*]; done)), (by first | rfl | (simp; done) | (simp [*]; done)), H', ⟨by have := HJ2.out; have := HK2.out; omega⟩, ⟨by (with_reducible repeat (first | apply Kd.R_alloc | apply Kd.R_drewN | apply Kd.R_drew)); exact HO_313001.out⟩, ⟨by (with_reducible repeat (first | refine blk_drewN ?_ _ | refine blk_drew ?_ | refine blk_alloc ?_ _)); exact BK312.out⟩, ⟨by repeat (first | (with_reducible first | exact HB.out | apply below_alloc | apply pw_below_drewN | apply below_drew1 | refine below_set ?_ GE312.out) | exact HB.out)⟩⟩
                  · rw [if_neg c18] at H
                    exact absurd H (by simp)
                · rw [if_neg c17] at H
                  have c17b0 : decide (0 < (((rd_T77 l1 x7_2).f0).length : Int)) = false := decide_eq_false c17
                  have c17b1 : decide (0 < ((rd_T77 l1 x7_2).f0).length) = false := decide_eq_false (by omega)
                  clear c17
                  have H' := Aside0.mk H
                  clear H
                  have p313 : 0 ≤ (x7_2 : Int) := of_decide_eq_true (by first | (with_reducible assumption) | assumption)
                  have q313 : x7_2 < (l1.length : Int) := of_decide_eq_true (by first | (with_reducible assumption) | assumption)
                  obtain ⟨ad313, A313_0, c313_0, e313, hx313_0, hx313_1, hl313_0, hi313_0⟩ := at_T77 HR1.out x7_2 p313 q313
                  cases e313
                  replace hx313_0 := (HB.out.cell (World.block_lt_of_cell? w _ hx313_0)).trans hx313_0
                  replace hx313_1 := (HB.out.cell (World.block_lt_of_cell? w _ hx313_1)).trans hx313_1
                  have HR313_0 := Aside0.mk hi313_0
                  have HC313_0 := Aside0.mk hl313_0
                  clear hi313_0 hl313_0
                  replace p313 := eq_true p313
                  replace q313 := eq_true q313
                  go_wp2
                  go_roundg k2
                  case measure => have := HJ2.out; have := HK2.out; omega
                  case rel => exact ⟨(x6_2), (wrap64 (x7_2 + 1)), (by first | rfl | (simp; done) | (simp [*]; done)), (by first | rfl | (simp; done) | (simp [*]; done)), H', ⟨by have := HJ2.out; have := HK2.out; omega⟩, ⟨by (with_reducible repeat (first | apply Kd.R_alloc | apply Kd.R_drewN | apply Kd.R_drew)); exact HO_313001.out⟩, ⟨by (with_reducible repeat (first | refine blk_drewN ?_ _ | refine blk_drew ?_ | refine blk_alloc ?_ _)); exact BK312.out⟩, ⟨by repeat (first | (with_reducible first | exact HB.out | apply below_alloc | apply pw_below_drewN | apply below_drew1 | refine below_set ?_ GE312.out) | exact HB.out)⟩⟩
              · rw [if_neg c16] at H
                exact absurd H (by simp)
            · rw [if_neg c15] at H
              have c15b0 : decide (x7_2 < (l1.length : Int)) = false := decide_eq_false c15
              clear c15
              replace H := Option.bind_eq_some_iff.mp H
              obtain ⟨t316, A200, H⟩ := H
              replace H : (if t308 = 1 then ((spans_Find.f t308 t309 (wrap64 (a0))).bind fun t319 => (if t319 = 0 then ((spans_Find.f t308 t309 (-1)).bind fun t320 => (if t320 = (-1) then (if (t316.length : Int) = 1 then (if 0 < (t316.length : Int) then (if (rd t316 0) = 0 then ((spans_Parts.f k2 t308 t309 l1 0).bind fun t322 => (if (t322.length : Int) = x6_2 then ((spans_Parts.f k2 t308 t309 l1 1).bind fun t325 => (if (t325.length : Int) = 0 then ((spans_Sound.f k2 t308 t309 1 1).bind fun t328 => (some t328)) else (some false))) else (some false))) else (some false)) else (none)) else (some false)) else (some false))) else (some false))) else (some false)) = some r := H
              have A20 := Aside0.mk A200
              clear A200
              by_cases c21 : t308 = 1
              · rw [if_pos c21] at H
                have c21b0 : (t308 == 1) = true := beq_iff_eq.mpr c21
                have c21b1 : (t308 != 1) = false := bne_eq_false_iff_eq.mpr c21
                clear c21
                replace H := Option.bind_eq_some_iff.mp H
                obtain ⟨t319, A220, H⟩ := H
                replace H : (if t319 = 0 then ((spans_Find.f t308 t309 (-1)).bind fun t320 => (if t320 = (-1) then (if (t316.length : Int) = 1 then (if 0 < (t316.length : Int) then (if (rd t316 0) = 0 then ((spans_Parts.f k2 t308 t309 l1 0).bind fun t322 => (if (t322.length : Int) = x6_2 then ((spans_Parts.f k2 t308 t309 l1 1).bind fun t325 => (if (t325.length : Int) = 0 then ((spans_Sound.f k2 t308 t309 1 1).bind fun t328 => (some t328)) else (some false))) else (some false))) else (some false)) else (none)) else (some false)) else (some false))) else (some false)) = some r := H
                have A22 := Aside0.mk A220
                clear A220
                by_cases c23 : t319 = 0
                · rw [if_pos c23] at H
                  have c23b0 : (t319 == 0) = true := beq_iff_eq.mpr c23
                  have c23b1 : (t319 != 0) = false := bne_eq_false_iff_eq.mpr c23
                  clear c23
                  replace H := Option.bind_eq_some_iff.mp H
                  obtain ⟨t320, A240, H⟩ := H
                  replace H : (if t320 = (-1) then (if (t316.length : Int) = 1 then (if 0 < (t316.length : Int) then (if (rd t316 0) = 0 then ((spans_Parts.f k2 t308 t309 l1 0).bind fun t322 => (if (t322.length : Int) = x6_2 then ((spans_Parts.f k2 t308 t309 l1 1).bind fun t325 => (if (t325.length : Int) = 0 then ((spans_Sound.f k2 t308 t309 1 1).bind fun t328 => (some t328)) else (some false))) else (some false))) else (some false)) else (none)) else (some false)) else (some false)) = some r := H
                  have A24 := Aside0.mk A240
                  clear A240
                  by_cases c25 : t320 = (-1)
                  · rw [if_pos c25] at H
                    have c25b0 : (t320 == (-1)) = true := beq_iff_eq.mpr c25
                    have c25b1 : (t320 != (-1)) = false := bne_eq_false_iff_eq.mpr c25
                    clear c25
                    by_cases c26 : (t316.length : Int) = 1
                    · rw [if_pos c26] at H
                      have c26b0 : ((t316.length : Int) == 1) = true := beq_iff_eq.mpr c26
                      have c26b1 : ((t316.length : Int) != 1) = false := bne_eq_false_iff_eq.mpr c26
                      clear c26
                      by_cases c27 : 0 < (t316.length : Int)
                      · rw [if_pos c27] at H
                        have c27b0 : decide (0 < (t316.length : Int)) = true := decide_eq_true c27
                        have c27b1 : decide (0 < t316.length) = true := decide_eq_true (by omega)
                        clear c27
                        by_cases c28 : (rd t316 0) = 0
                        · rw [if_pos c28] at H
                          have c28b0 : ((rd t316 0) == 0) = true := beq_iff_eq.mpr c28
                          have c28b1 : ((rd t316 0) != 0) = false := bne_eq_false_iff_eq.mpr c28
                          clear c28
                          replace H := Option.bind_eq_some_iff.mp H
                          obtain ⟨t322, A290, H⟩ := H
                          replace H : (if (t322.length : Int) = x6_2 then ((spans_Parts.f k2 t308 t309 l1 1).bind fun t325 => (if (t325.length : Int) = 0 then ((spans_Sound.f k2 t308 t309 1 1).bind fun t328 => (some t328)) else (some false))) else (some false)) = some r := H
                          have A29 := Aside0.mk A290
                          clear A290
                          by_cases c30 : (t322.length : Int) = x6_2
                          · rw [if_pos c30] at H
                            have c30b0 : ((t322.length : Int) == x6_2) = true := beq_iff_eq.mpr c30
                            have c30b1 : ((t322.length : Int) != x6_2) = false := bne_eq_false_iff_eq.mpr c30
                            clear c30
                            replace H := Option.bind_eq_some_iff.mp H
                            obtain ⟨t325, A310, H⟩ := H
                            replace H : (if (t325.length : Int) = 0 then ((spans_Sound.f k2 t308 t309 1 1).bind fun t328 => (some t328)) else (some false)) = some r := H
                            have A31 := Aside0.mk A310
                            clear A310
                            by_cases c32 : (t325.length : Int) = 0
                            · rw [if_pos c32] at H
                              have c32b0 : ((t325.length : Int) == 0) = true := beq_iff_eq.mpr c32
                              have c32b1 : ((t325.length : Int) != 0) = false := bne_eq_false_iff_eq.mpr c32
                              clear c32
                              replace H := Option.bind_eq_some_iff.mp H
                              obtain ⟨t328, A330, H⟩ := H
                              replace H : (some t328) = some r := H
                              have A33 := Aside0.mk A330
                              clear A330
                              obtain rfl := Option.some.inj H
                              have hcz34_0 : wr.cell? ⟨gb312, 0, none⟩ = some (.int .u32 t308) := (blk_cell BK312.out 0).trans rfl
                              have hcz34_1 : wr.cell? ⟨gb312, 1, none⟩ = some (.slice Ao14 t309.length co14) := (blk_cell BK312.out 1).trans rfl
                              have hfz34_0 := blk_frozen BK312.out 0
                              have hfz34_1 := blk_frozen BK312.out 1
                              go_wp2_with (first | ((with_reducible refine gate_callee (f := 28) rfl ?_); refine goesL_ (some 51) rfl rfl Try.func28 (by kernel_rfl) rfl #[.agg #[.int .u32 t308, .slice Ao14 t309.length co14], .int .i64 (wrap64 (Int.tmod a0 1000)), .int .i64 (wrap64 ((wrap64 (Int.tmod a0 1000)) + 1))] rfl (by (try simp only [List.map_toArray, List.map_cons, List.map_nil]); first | done | rfl | (simp only [List.length_drop, List.length_take]; rfl)) ?_; (with_reducible refine (spans_Nodes.calls t308 _ _ t309 (wrap64 (Int.tmod a0 1000)) (wrap64 ((wrap64 (Int.tmod a0 1000)) + 1)) t316 _ ?side1 ?side2 A20.out).mono ?_); (case side1 => repeat (first | exact (Kd.R_reads' HO_313001.out).2.2 | (with_reducible refine Kd.C_alloc ?_ _) | (with_reducible refine Kd.C_drewN ?_ _) | (with_reducible refine Kd.C_drew ?_))); (case side2 => exact (Kd.R_reads' HO_313001.out).2.1); rintro e w35 ⟨v317, rfl, ho0, hb⟩; refine ⟨_, rfl, ?_⟩; have n0_ := Aside0.mk (Kd.R_below (by (with_reducible repeat (first | apply Kd.R_alloc | apply Kd.R_drewN | apply Kd.R_drew)); exact HO_313001.out) hb); have n1_ := Aside0.mk (Kd.R_lower ho0 (below_size (by repeat (first | (with_reducible first | exact HB.out | apply below_alloc | apply pw_below_drewN | apply below_drew1 | refine below_set ?_ GE312.out) | exact HB.out)))); have n2_ := Aside0.mk (blk_below (g := gb312) (o := .cells #[.int .u32 t308, .slice Ao14 t309.length co14] 42 (0, 0)) (by (with_reducible repeat (first | refine blk_drewN ?_ _ | refine blk_drew ?_ | refine blk_alloc ?_ _)); exact BK312.out) hb); have n3_ := Aside0.mk (below_step (by repeat (first | (with_reducible first | exact HB.out | apply below_alloc | apply pw_below_drewN | apply below_drew1 | refine below_set ?_ GE312.out) | exact HB.out)) hb); clear HO_313001; clear BK312; clear HB; have HO_313001 := n0_; have HO318 := n1_; have BK312 := n2_; have HB := n3_; clear n0_ n1_ n2_ n3_; (try clear hb); (try clear hb2); (try clear hk); (try clear hi); (try clear ho0); have hcz36_0 : w35.cell? ⟨gb312, 0, none⟩ = some (.int .u32 t308) := (blk_cell BK312.out 0).trans rfl; have hcz36_1 : w35.cell? ⟨gb312, 1, none⟩ = some (.slice Ao14 t309.length co14) := (blk_cell BK312.out 1).trans rfl; have hfz36_0 := blk_frozen BK312.out 0; have hfz36_1 := blk_frozen BK312.out 1) | (go_at_call 35; (with_reducible refine (spans_Find.calls t308 _ _ t309 (wrap64 (a0)) t319 _ ?side1 ?side2 A22.out).mono ?_); (case side1 => repeat (first | exact (Kd.R_reads' HO_313001.out).2.2 | (with_reducible refine Kd.C_alloc ?_ _) | (with_reducible refine Kd.C_drewN ?_ _) | (with_reducible refine Kd.C_drew ?_))); (case side2 => exact (Kd.R_reads' HO_313001.out).2.1); rintro e w37 ⟨rfl, hb⟩; have n0_ := Aside0.mk (Kd.R_below (by (with_reducible repeat (first | apply Kd.R_alloc | apply Kd.R_drewN | apply Kd.R_drew)); exact HO_313001.out) hb); have n1_ := Aside0.mk (Kd.R_below (by (with_reducible repeat (first | apply Kd.R_alloc | apply Kd.R_drewN | apply Kd.R_drew)); exact HO318.out) hb); have n2_ := Aside0.mk (blk_below (g := gb312) (o := .cells #[.int .u32 t308, .slice Ao14 t309.length co14] 42 (0, 0)) (by (with_reducible repeat (first | refine blk_drewN ?_ _ | refine blk_drew ?_ | refine blk_alloc ?_ _)); exact BK312.out) hb); have n3_ := Aside0.mk (below_step (by repeat (first | (with_reducible first | exact HB.out | apply below_alloc | apply pw_below_drewN | apply below_drew1 | refine below_set ?_ GE312.out) | exact HB.out)) hb); clear HO_313001; clear HO318; clear BK312; clear HB; have HO_313001 := n0_; have HO318 := n1_; have BK312 := n2_; have HB := n3_; clear n0_ n1_ n2_ n3_; (try clear hb); (try clear hb2); (try clear hk); (try clear hi); have hcz38_0 : w37.cell? ⟨gb312, 0, none⟩ = some (.int .u32 t308) := (blk_cell BK312.out 0).trans rfl; have hcz38_1 : w37.cell? ⟨gb312, 1, none⟩ = some (.slice Ao14 t309.length co14) := (blk_cell BK312.out 1).trans rfl; have hfz38_0 := blk_frozen BK312.out 0; have hfz38_1 := blk_frozen BK312.out 1) | (go_at_call 35; (with_reducible refine (spans_Find.calls t308 _ _ t309 (-1) t320 _ ?side1 ?side2 A24.out).mono ?_); (case side1 => repeat (first | exact (Kd.R_reads' HO_313001.out).2.2 | (with_reducible refine Kd.C_alloc ?_ _) | (with_reducible refine Kd.C_drewN ?_ _) | (with_reducible refine Kd.C_drew ?_))); (case side2 => exact (Kd.R_reads' HO_313001.out).2.1); rintro e w39 ⟨rfl, hb⟩; have n0_ := Aside0.mk (Kd.R_below (by (with_reducible repeat (first | apply Kd.R_alloc | apply Kd.R_drewN | apply Kd.R_drew)); exact HO_313001.out) hb); have n1_ := Aside0.mk (Kd.R_below (by (with_reducible repeat (first | apply Kd.R_alloc | apply Kd.R_drewN | apply Kd.R_drew)); exact HO318.out) hb); have n2_ := Aside0.mk (blk_below (g := gb312) (o := .cells #[.int .u32 t308, .slice Ao14 t309.length co14] 42 (0, 0)) (by (with_reducible repeat (first | refine blk_drewN ?_ _ | refine blk_drew ?_ | refine blk_alloc ?_ _)); exact BK312.out) hb); have n3_ := Aside0.mk (below_step (by repeat (first | (with_reducible first | exact HB.out | apply below_alloc | apply pw_below_drewN | apply below_drew1 | refine below_set ?_ GE312.out) | exact HB.out)) hb); clear HO_313001; clear HO318; clear BK312; clear HB; have HO_313001 := n0_; have HO318 := n1_; have BK312 := n2_; have HB := n3_; clear n0_ n1_ n2_ n3_; (try clear hb); (try clear hb2); (try clear hk); (try clear hi); obtain ⟨Ao40, co40, eo40⟩ := Kd.R_slice HO318.out; subst eo40; have p321 : 0 ≤ (0 : Int) := (by omega); have q321 : 0 < (t316.length : Int) := of_decide_eq_true (by first | (with_reducible assumption) | assumption); obtain ⟨ad321, e321, hx321_0⟩ := Kd.at_int (Kd.R_reads' HO318.out).2.2 0 p321 q321; cases e321; have qi321 : (0 < t316.length) = True := eq_true (by omega); (try rw [show ((0 : Int)).toNat = 0 from rfl] at hx321_0); (try rw [Addr.add_zero'] at hx321_0); replace p321 := eq_true p321; replace q321 := eq_true q321; have hcz41_0 : w39.cell? ⟨gb312, 0, none⟩ = some (.int .u32 t308) := (blk_cell BK312.out 0).trans rfl; have hcz41_1 : w39.cell? ⟨gb312, 1, none⟩ = some (.slice Ao14 t309.length co14) := (blk_cell BK312.out 1).trans rfl; have hfz41_0 := blk_frozen BK312.out 0; have hfz41_1 := blk_frozen BK312.out 1) | (go_at_call 39; (with_reducible refine (spans_Parts.calls k2 t308 _ _ t309 _ _ l1 0 t322 _ ?side1 ?side2 ?side3 ?side4 A29.out).mono ?_); (case side1 => repeat (first | exact (Kd.R_reads' HO_313001.out).2.2 | (with_reducible refine Kd.C_alloc ?_ _) | (with_reducible refine Kd.C_drewN ?_ _) | (with_reducible refine Kd.C_drew ?_))); (case side2 => exact (Kd.R_reads' HO_313001.out).2.1); (case side3 => repeat (first | exact (Kd.C_below HR1.out HB.out) | (with_reducible refine Kd.C_alloc ?_ _) | (with_reducible refine Kd.C_drewN ?_ _) | (with_reducible refine Kd.C_drew ?_))); (case side4 => exact HC1.out); rintro e w42 ⟨v323, rfl, ho0, hb⟩; have n0_ := Aside0.mk (Kd.R_below (by (with_reducible repeat (first | apply Kd.R_alloc | apply Kd.R_drewN | apply Kd.R_drew)); exact HO_313001.out) hb); have n1_ := Aside0.mk (Kd.R_below (by (with_reducible repeat (first | apply Kd.R_alloc | apply Kd.R_drewN | apply Kd.R_drew)); exact HO318.out) hb); have n2_ := Aside0.mk (Kd.R_lower (Kd.R_new' ho0 (Kd.R_lt (by (with_reducible repeat (first | apply Kd.R_alloc | apply Kd.R_drewN | apply Kd.R_drew)); exact HO318.out))) (below_size (by repeat (first | (with_reducible first | exact HB.out | apply below_alloc | apply pw_below_drewN | apply below_drew1 | refine below_set ?_ GE312.out) | exact HB.out)))); have n3_ := Aside0.mk (blk_below (g := gb312) (o := .cells #[.int .u32 t308, .slice Ao14 t309.length co14] 42 (0, 0)) (by (with_reducible repeat (first | refine blk_drewN ?_ _ | refine blk_drew ?_ | refine blk_alloc ?_ _)); exact BK312.out) hb); have n4_ := Aside0.mk (below_step (by repeat (first | (with_reducible first | exact HB.out | apply below_alloc | apply pw_below_drewN | apply below_drew1 | refine below_set ?_ GE312.out) | exact HB.out)) hb); clear HO_313001; clear HO318; clear BK312; clear HB; have HO_313001 := n0_; have HO318 := n1_; have HO324 := n2_; have BK312 := n3_; have HB := n4_; clear n0_ n1_ n2_ n3_ n4_; (try clear hb); (try clear hb2); (try clear hk); (try clear hi); (try clear ho0); obtain ⟨Ao43, co43, eo43⟩ := Kd.R_slice HO324.out; subst eo43; have hcz44_0 : w42.cell? ⟨gb312, 0, none⟩ = some (.int .u32 t308) := (blk_cell BK312.out 0).trans rfl; have hcz44_1 : w42.cell? ⟨gb312, 1, none⟩ = some (.slice Ao14 t309.length co14) := (blk_cell BK312.out 1).trans rfl; have hfz44_0 := blk_frozen BK312.out 0; have hfz44_1 := blk_frozen BK312.out 1) | (go_at_call 39; (with_reducible refine (spans_Parts.calls k2 t308 _ _ t309 _ _ l1 1 t325 _ ?side1 ?side2 ?side3 ?side4 A31.out).mono ?_); (case side1 => repeat (first | exact (Kd.R_reads' HO_313001.out).2.2 | (with_reducible refine Kd.C_alloc ?_ _) | (with_reducible refine Kd.C_drewN ?_ _) | (with_reducible refine Kd.C_drew ?_))); (case side2 => exact (Kd.R_reads' HO_313001.out).2.1); (case side3 => repeat (first | exact (Kd.C_below HR1.out HB.out) | (with_reducible refine Kd.C_alloc ?_ _) | (with_reducible refine Kd.C_drewN ?_ _) | (with_reducible refine Kd.C_drew ?_))); (case side4 => exact HC1.out); rintro e w45 ⟨v326, rfl, ho0, hb⟩; have n0_ := Aside0.mk (Kd.R_below (by (with_reducible repeat (first | apply Kd.R_alloc | apply Kd.R_drewN | apply Kd.R_drew)); exact HO_313001.out) hb); have n1_ := Aside0.mk (Kd.R_below (by (with_reducible repeat (first | apply Kd.R_alloc | apply Kd.R_drewN | apply Kd.R_drew)); exact HO318.out) hb); have n2_ := Aside0.mk (Kd.R_elder' (by (with_reducible repeat (first | apply Kd.R_alloc | apply Kd.R_drewN | apply Kd.R_drew)); exact HO324.out) (Kd.R_base ho0) hb); have n3_ := Aside0.mk (Kd.R_lower (Kd.R_new' (Kd.R_new' ho0 (Kd.R_lt (by (with_reducible repeat (first | apply Kd.R_alloc | apply Kd.R_drewN | apply Kd.R_drew)); exact HO318.out))) (Kd.R_lt (by (with_reducible repeat (first | apply Kd.R_alloc | apply Kd.R_drewN | apply Kd.R_drew)); exact HO324.out))) (below_size (by repeat (first | (with_reducible first | exact HB.out | apply below_alloc | apply pw_below_drewN | apply below_drew1 | refine below_set ?_ GE312.out) | exact HB.out)))); have n4_ := Aside0.mk (blk_below (g := gb312) (o := .cells #[.int .u32 t308, .slice Ao14 t309.length co14] 42 (0, 0)) (by (with_reducible repeat (first | refine blk_drewN ?_ _ | refine blk_drew ?_ | refine blk_alloc ?_ _)); exact BK312.out) hb); have n5_ := Aside0.mk (below_step (by repeat (first | (with_reducible first | exact HB.out | apply below_alloc | apply pw_below_drewN | apply below_drew1 | refine below_set ?_ GE312.out) | exact HB.out)) hb); clear HO_313001; clear HO318; clear HO324; clear BK312; clear HB; have HO_313001 := n0_; have HO318 := n1_; have HO324 := n2_; have HO327 := n3_; have BK312 := n4_; have HB := n5_; clear n0_ n1_ n2_ n3_ n4_ n5_; (try clear hb); (try clear hb2); (try clear hk); (try clear hi); (try clear ho0); obtain ⟨Ao46, co46, eo46⟩ := Kd.R_slice HO327.out; subst eo46; have hcz47_0 : w45.cell? ⟨gb312, 0, none⟩ = some (.int .u32 t308) := (blk_cell BK312.out 0).trans rfl; have hcz47_1 : w45.cell? ⟨gb312, 1, none⟩ = some (.slice Ao14 t309.length co14) := (blk_cell BK312.out 1).trans rfl; have hfz47_0 := blk_frozen BK312.out 0; have hfz47_1 := blk_frozen BK312.out 1) | (go_at_call 33; (with_reducible refine (spans_Sound.calls k2 t308 _ _ t309 1 1 t328 _ ?side1 ?side2 A33.out).mono ?_); (case side1 => repeat (first | exact (Kd.R_reads' HO_313001.out).2.2 | (with_reducible refine Kd.C_alloc ?_ _) | (with_reducible refine Kd.C_drewN ?_ _) | (with_reducible refine Kd.C_drew ?_))); (case side2 => exact (Kd.R_reads' HO_313001.out).2.1); rintro e w48 ⟨rfl, hb⟩; have n0_ := Aside0.mk (Kd.R_below (by (with_reducible repeat (first | apply Kd.R_alloc | apply Kd.R_drewN | apply Kd.R_drew)); exact HO_313001.out) hb); have n1_ := Aside0.mk (Kd.R_below (by (with_reducible repeat (first | apply Kd.R_alloc | apply Kd.R_drewN | apply Kd.R_drew)); exact HO318.out) hb); have n2_ := Aside0.mk (Kd.R_below (by (with_reducible repeat (first | apply Kd.R_alloc | apply Kd.R_drewN | apply Kd.R_drew)); exact HO324.out) hb); have n3_ := Aside0.mk (Kd.R_below (by (with_reducible repeat (first | apply Kd.R_alloc | apply Kd.R_drewN | apply Kd.R_drew)); exact HO327.out) hb); have n4_ := Aside0.mk (blk_below (g := gb312) (o := .cells #[.int .u32 t308, .slice Ao14 t309.length co14] 42 (0, 0)) (by (with_reducible repeat (first | refine blk_drewN ?_ _ | refine blk_drew ?_ | refine blk_alloc ?_ _)); exact BK312.out) hb); have n5_ := Aside0.mk (below_step (by repeat (first | (with_reducible first | exact HB.out | apply below_alloc | apply pw_below_drewN | apply below_drew1 | refine below_set ?_ GE312.out) | exact HB.out)) hb); clear HO_313001; clear HO318; clear HO324; clear HO327; clear BK312; clear HB; have HO_313001 := n0_; have HO318 := n1_; have HO324 := n2_; have HO327 := n3_; have BK312 := n4_; have HB := n5_; clear n0_ n1_ n2_ n3_ n4_ n5_; (try clear hb); (try clear hb2); (try clear hk); (try clear hi)))
                              go_ret
                              exact ⟨by first | rfl | (simp [errW_none, errW_some] <;> rfl) | (simp [*, errW_none, errW_some] <;> rfl), by repeat (first | (with_reducible first | exact HB.out | apply below_alloc | apply pw_below_drewN | apply below_drew1 | refine below_set ?_ GE312.out) | exact HB.out)⟩
                            · rw [if_neg c32] at H
                              have c32b0 : ((t325.length : Int) == 0) = false := beq_eq_false_iff_ne.mpr c32
                              have c32b1 : ((t325.length : Int) != 0) = true := bne_iff_ne.mpr c32
                              have c32b2 : ¬ (t325 = []) := fun h_ => c32 (by rw [h_]; rfl)
                              obtain rfl := Option.some.inj H
                              have hcz49_0 : wr.cell? ⟨gb312, 0, none⟩ = some (.int .u32 t308) := (blk_cell BK312.out 0).trans rfl
                              have hcz49_1 : wr.cell? ⟨gb312, 1, none⟩ = some (.slice Ao14 t309.length co14) := (blk_cell BK312.out 1).trans rfl
                              have hfz49_0 := blk_frozen BK312.out 0
                              have hfz49_1 := blk_frozen BK312.out 1
                              go_wp2_with (first | ((with_reducible refine gate_callee (f := 28) rfl ?_); refine goesL_ (some 51) rfl rfl Try.func28 (by kernel_rfl) rfl #[.agg #[.int .u32 t308, .slice Ao14 t309.length co14], .int .i64 (wrap64 (Int.tmod a0 1000)), .int .i64 (wrap64 ((wrap64 (Int.tmod a0 1000)) + 1))] rfl (by (try simp only [List.map_toArray, List.map_cons, List.map_nil]); first | done | rfl | (simp only [List.length_drop, List.length_take]; rfl)) ?_; (with_reducible refine (spans_Nodes.calls t308 _ _ t309 (wrap64 (Int.tmod a0 1000)) (wrap64 ((wrap64 (Int.tmod a0 1000)) + 1)) t316 _ ?side1 ?side2 A20.out).mono ?_); (case side1 => repeat (first | exact (Kd.R_reads' HO_313001.out).2.2 | (with_reducible refine Kd.C_alloc ?_ _) | (with_reducible refine Kd.C_drewN ?_ _) | (with_reducible refine Kd.C_drew ?_))); (case side2 => exact (Kd.R_reads' HO_313001.out).2.1); rintro e w50 ⟨v317, rfl, ho0, hb⟩; refine ⟨_, rfl, ?_⟩; have n0_ := Aside0.mk (Kd.R_below (by (with_reducible repeat (first | apply Kd.R_alloc | apply Kd.R_drewN | apply Kd.R_drew)); exact HO_313001.out) hb); have n1_ := Aside0.mk (Kd.R_lower ho0 (below_size (by repeat (first | (with_reducible first | exact HB.out | apply below_alloc | apply pw_below_drewN | apply below_drew1 | refine below_set ?_ GE312.out) | exact HB.out)))); have n2_ := Aside0.mk (blk_below (g := gb312) (o := .cells #[.int .u32 t308, .slice Ao14 t309.length co14] 42 (0, 0)) (by (with_reducible repeat (first | refine blk_drewN ?_ _ | refine blk_drew ?_ | refine blk_alloc ?_ _)); exact BK312.out) hb); have n3_ := Aside0.mk (below_step (by repeat (first | (with_reducible first | exact HB.out | apply below_alloc | apply pw_below_drewN | apply below_drew1 | refine below_set ?_ GE312.out) | exact HB.out)) hb); clear HO_313001; clear BK312; clear HB; have HO_313001 := n0_; have HO318 := n1_; have BK312 := n2_; have HB := n3_; clear n0_ n1_ n2_ n3_; (try clear hb); (try clear hb2); (try clear hk); (try clear hi); (try clear ho0); have hcz51_0 : w50.cell? ⟨gb312, 0, none⟩ = some (.int .u32 t308) := (blk_cell BK312.out 0).trans rfl; have hcz51_1 : w50.cell? ⟨gb312, 1, none⟩ = some (.slice Ao14 t309.length co14) := (blk_cell BK312.out 1).trans rfl; have hfz51_0 := blk_frozen BK312.out 0; have hfz51_1 := blk_frozen BK312.out 1) | (go_at_call 35; (with_reducible refine (spans_Find.calls t308 _ _ t309 (wrap64 (a0)) t319 _ ?side1 ?side2 A22.out).mono ?_); (case side1 => repeat (first | exact (Kd.R_reads' HO_313001.out).2.2 | (with_reducible refine Kd.C_alloc ?_ _) | (with_reducible refine Kd.C_drewN ?_ _) | (with_reducible refine Kd.C_drew ?_))); (case side2 => exact (Kd.R_reads' HO_313001.out).2.1); rintro e w52 ⟨rfl, hb⟩; have n0_ := Aside0.mk (Kd.R_below (by (with_reducible repeat (first | apply Kd.R_alloc | apply Kd.R_drewN | apply Kd.R_drew)); exact HO_313001.out) hb); have n1_ := Aside0.mk (Kd.R_below (by (with_reducible repeat (first | apply Kd.R_alloc | apply Kd.R_drewN | apply Kd.R_drew)); exact HO318.out) hb); have n2_ := Aside0.mk (blk_below (g := gb312) (o := .cells #[.int .u32 t308, .slice Ao14 t309.length co14] 42 (0, 0)) (by (with_reducible repeat (first | refine blk_drewN ?_ _ | refine blk_drew ?_ | refine blk_alloc ?_ _)); exact BK312.out) hb); have n3_ := Aside0.mk (below_step (by repeat (first | (with_reducible first | exact HB.out | apply below_alloc | apply pw_below_drewN | apply below_drew1 | refine below_set ?_ GE312.out) | exact HB.out)) hb); clear HO_313001; clear HO318; clear BK312; clear HB; have HO_313001 := n0_; have HO318 := n1_; have BK312 := n2_; have HB := n3_; clear n0_ n1_ n2_ n3_; (try clear hb); (try clear hb2); (try clear hk); (try clear hi); have hcz53_0 : w52.cell? ⟨gb312, 0, none⟩ = some (.int .u32 t308) := (blk_cell BK312.out 0).trans rfl; have hcz53_1 : w52.cell? ⟨gb312, 1, none⟩ = some (.slice Ao14 t309.length co14) := (blk_cell BK312.out 1).trans rfl; have hfz53_0 := blk_frozen BK312.out 0; have hfz53_1 := blk_frozen BK312.out 1) | (go_at_call 35; (with_reducible refine (spans_Find.calls t308 _ _ t309 (-1) t320 _ ?side1 ?side2 A24.out).mono ?_); (case side1 => repeat (first | exact (Kd.R_reads' HO_313001.out).2.2 | (with_reducible refine Kd.C_alloc ?_ _) | (with_reducible refine Kd.C_drewN ?_ _) | (with_reducible refine Kd.C_drew ?_))); (case side2 => exact (Kd.R_reads' HO_313001.out).2.1); rintro e w54 ⟨rfl, hb⟩; have n0_ := Aside0.mk (Kd.R_below (by (with_reducible repeat (first | apply Kd.R_alloc | apply Kd.R_drewN | apply Kd.R_drew)); exact HO_313001.out) hb); have n1_ := Aside0.mk (Kd.R_below (by (with_reducible repeat (first | apply Kd.R_alloc | apply Kd.R_drewN | apply Kd.R_drew)); exact HO318.out) hb); have n2_ := Aside0.mk (blk_below (g := gb312) (o := .cells #[.int .u32 t308, .slice Ao14 t309.length co14] 42 (0, 0)) (by (with_reducible repeat (first | refine blk_drewN ?_ _ | refine blk_drew ?_ | refine blk_alloc ?_ _)); exact BK312.out) hb); have n3_ := Aside0.mk (below_step (by repeat (first | (with_reducible first | exact HB.out | apply below_alloc | apply pw_below_drewN | apply below_drew1 | refine below_set ?_ GE312.out) | exact HB.out)) hb); clear HO_313001; clear HO318; clear BK312; clear HB; have HO_313001 := n0_; have HO318 := n1_; have BK312 := n2_; have HB := n3_; clear n0_ n1_ n2_ n3_; (try clear hb); (try clear hb2); (try clear hk); (try clear hi); obtain ⟨Ao55, co55, eo55⟩ := Kd.R_slice HO318.out; subst eo55; have p321 : 0 ≤ (0 : Int) := (by omega); have q321 : 0 < (t316.length : Int) := of_decide_eq_true (by first | (with_reducible assumption) | assumption); obtain ⟨ad321, e321, hx321_0⟩ := Kd.at_int (Kd.R_reads' HO318.out).2.2 0 p321 q321; cases e321; have qi321 : (0 < t316.length) = True := eq_true (by omega); (try rw [show ((0 : Int)).toNat = 0 from rfl] at hx321_0); (try rw [Addr.add_zero'] at hx321_0); replace p321 := eq_true p321; replace q321 := eq_true q321; have hcz56_0 : w54.cell? ⟨gb312, 0, none⟩ = some (.int .u32 t308) := (blk_cell BK312.out 0).trans rfl; have hcz56_1 : w54.cell? ⟨gb312, 1, none⟩ = some (.slice Ao14 t309.length co14) := (blk_cell BK312.out 1).trans rfl; have hfz56_0 := blk_frozen BK312.out 0; have hfz56_1 := blk_frozen BK312.out 1) | (go_at_call 39; (with_reducible refine (spans_Parts.calls k2 t308 _ _ t309 _ _ l1 0 t322 _ ?side1 ?side2 ?side3 ?side4 A29.out).mono ?_); (case side1 => repeat (first | exact (Kd.R_reads' HO_313001.out).2.2 | (with_reducible refine Kd.C_alloc ?_ _) | (with_reducible refine Kd.C_drewN ?_ _) | (with_reducible refine Kd.C_drew ?_))); (case side2 => exact (Kd.R_reads' HO_313001.out).2.1); (case side3 => repeat (first | exact (Kd.C_below HR1.out HB.out) | (with_reducible refine Kd.C_alloc ?_ _) | (with_reducible refine Kd.C_drewN ?_ _) | (with_reducible refine Kd.C_drew ?_))); (case side4 => exact HC1.out); rintro e w57 ⟨v323, rfl, ho0, hb⟩; have n0_ := Aside0.mk (Kd.R_below (by (with_reducible repeat (first | apply Kd.R_alloc | apply Kd.R_drewN | apply Kd.R_drew)); exact HO_313001.out) hb); have n1_ := Aside0.mk (Kd.R_below (by (with_reducible repeat (first | apply Kd.R_alloc | apply Kd.R_drewN | apply Kd.R_drew)); exact HO318.out) hb); have n2_ := Aside0.mk (Kd.R_lower (Kd.R_new' ho0 (Kd.R_lt (by (with_reducible repeat (first | apply Kd.R_alloc | apply Kd.R_drewN | apply Kd.R_drew)); exact HO318.out))) (below_size (by repeat (first | (with_reducible first | exact HB.out | apply below_alloc | apply pw_below_drewN | apply below_drew1 | refine below_set ?_ GE312.out) | exact HB.out)))); have n3_ := Aside0.mk (blk_below (g := gb312) (o := .cells #[.int .u32 t308, .slice Ao14 t309.length co14] 42 (0, 0)) (by (with_reducible repeat (first | refine blk_drewN ?_ _ | refine blk_drew ?_ | refine blk_alloc ?_ _)); exact BK312.out) hb); have n4_ := Aside0.mk (below_step (by repeat (first | (with_reducible first | exact HB.out | apply below_alloc | apply pw_below_drewN | apply below_drew1 | refine below_set ?_ GE312.out) | exact HB.out)) hb); clear HO_313001; clear HO318; clear BK312; clear HB; have HO_313001 := n0_; have HO318 := n1_; have HO324 := n2_; have BK312 := n3_; have HB := n4_; clear n0_ n1_ n2_ n3_ n4_; (try clear hb); (try clear hb2); (try clear hk); (try clear hi); (try clear ho0); obtain ⟨Ao58, co58, eo58⟩ := Kd.R_slice HO324.out; subst eo58; have hcz59_0 : w57.cell? ⟨gb312, 0, none⟩ = some (.int .u32 t308) := (blk_cell BK312.out 0).trans rfl; have hcz59_1 : w57.cell? ⟨gb312, 1, none⟩ = some (.slice Ao14 t309.length co14) := (blk_cell BK312.out 1).trans rfl; have hfz59_0 := blk_frozen BK312.out 0; have hfz59_1 := blk_frozen BK312.out 1) | (go_at_call 39; (with_reducible refine (spans_Parts.calls k2 t308 _ _ t309 _ _ l1 1 t325 _ ?side1 ?side2 ?side3 ?side4 A31.out).mono ?_); (case side1 => repeat (first | exact (Kd.R_reads' HO_313001.out).2.2 | (with_reducible refine Kd.C_alloc ?_ _) | (with_reducible refine Kd.C_drewN ?_ _) | (with_reducible refine Kd.C_drew ?_))); (case side2 => exact (Kd.R_reads' HO_313001.out).2.1); (case side3 => repeat (first | exact (Kd.C_below HR1.out HB.out) | (with_reducible refine Kd.C_alloc ?_ _) | (with_reducible refine Kd.C_drewN ?_ _) | (with_reducible refine Kd.C_drew ?_))); (case side4 => exact HC1.out); rintro e w60 ⟨v326, rfl, ho0, hb⟩; have n0_ := Aside0.mk (Kd.R_below (by (with_reducible repeat (first | apply Kd.R_alloc | apply Kd.R_drewN | apply Kd.R_drew)); exact HO_313001.out) hb); have n1_ := Aside0.mk (Kd.R_below (by (with_reducible repeat (first | apply Kd.R_alloc | apply Kd.R_drewN | apply Kd.R_drew)); exact HO318.out) hb); have n2_ := Aside0.mk (Kd.R_elder' (by (with_reducible repeat (first | apply Kd.R_alloc | apply Kd.R_drewN | apply Kd.R_drew)); exact HO324.out) (Kd.R_base ho0) hb); have n3_ := Aside0.mk (Kd.R_lower (Kd.R_new' (Kd.R_new' ho0 (Kd.R_lt (by (with_reducible repeat (first | apply Kd.R_alloc | apply Kd.R_drewN | apply Kd.R_drew)); exact HO318.out))) (Kd.R_lt (by (with_reducible repeat (first | apply Kd.R_alloc | apply Kd.R_drewN | apply Kd.R_drew)); exact HO324.out))) (below_size (by repeat (first | (with_reducible first | exact HB.out | apply below_alloc | apply pw_below_drewN | apply below_drew1 | refine below_set ?_ GE312.out) | exact HB.out)))); have n4_ := Aside0.mk (blk_below (g := gb312) (o := .cells #[.int .u32 t308, .slice Ao14 t309.length co14] 42 (0, 0)) (by (with_reducible repeat (first | refine blk_drewN ?_ _ | refine blk_drew ?_ | refine blk_alloc ?_ _)); exact BK312.out) hb); have n5_ := Aside0.mk (below_step (by repeat (first | (with_reducible first | exact HB.out | apply below_alloc | apply pw_below_drewN | apply below_drew1 | refine below_set ?_ GE312.out) | exact HB.out)) hb); clear HO_313001; clear HO318; clear HO324; clear BK312; clear HB; have HO_313001 := n0_; have HO318 := n1_; have HO324 := n2_; have HO327 := n3_; have BK312 := n4_; have HB := n5_; clear n0_ n1_ n2_ n3_ n4_ n5_; (try clear hb); (try clear hb2); (try clear hk); (try clear hi); (try clear ho0); obtain ⟨Ao61, co61, eo61⟩ := Kd.R_slice HO327.out; subst eo61))
                              go_ret
                              exact ⟨by first | rfl | (simp [errW_none, errW_some] <;> rfl) | (simp [*, errW_none, errW_some] <;> rfl), by repeat (first | (with_reducible first | exact HB.out | apply below_alloc | apply pw_below_drewN | apply below_drew1 | refine below_set ?_ GE312.out) | exact HB.out)⟩
                          · rw [if_neg c30] at H
                            have c30b0 : ((t322.length : Int) == x6_2) = false := beq_eq_false_iff_ne.mpr c30
                            have c30b1 : ((t322.length : Int) != x6_2) = true := bne_iff_ne.mpr c30
                            obtain rfl := Option.some.inj H
                            have hcz62_0 : wr.cell? ⟨gb312, 0, none⟩ = some (.int .u32 t308) := (blk_cell BK312.out 0).trans rfl
                            have hcz62_1 : wr.cell? ⟨gb312, 1, none⟩ = some (.slice Ao14 t309.length co14) := (blk_cell BK312.out 1).trans rfl
                            have hfz62_0 := blk_frozen BK312.out 0
                            have hfz62_1 := blk_frozen BK312.out 1
                            go_wp2_with (first | ((with_reducible refine gate_callee (f := 28) rfl ?_); refine goesL_ (some 51) rfl rfl Try.func28 (by kernel_rfl) rfl #[.agg #[.int .u32 t308, .slice Ao14 t309.length co14], .int .i64 (wrap64 (Int.tmod a0 1000)), .int .i64 (wrap64 ((wrap64 (Int.tmod a0 1000)) + 1))] rfl (by (try simp only [List.map_toArray, List.map_cons, List.map_nil]); first | done | rfl | (simp only [List.length_drop, List.length_take]; rfl)) ?_; (with_reducible refine (spans_Nodes.calls t308 _ _ t309 (wrap64 (Int.tmod a0 1000)) (wrap64 ((wrap64 (Int.tmod a0 1000)) + 1)) t316 _ ?side1 ?side2 A20.out).mono ?_); (case side1 => repeat (first | exact (Kd.R_reads' HO_313001.out).2.2 | (with_reducible refine Kd.C_alloc ?_ _) | (with_reducible refine Kd.C_drewN ?_ _) | (with_reducible refine Kd.C_drew ?_))); (case side2 => exact (Kd.R_reads' HO_313001.out).2.1); rintro e w63 ⟨v317, rfl, ho0, hb⟩; refine ⟨_, rfl, ?_⟩; have n0_ := Aside0.mk (Kd.R_below (by (with_reducible repeat (first | apply Kd.R_alloc | apply Kd.R_drewN | apply Kd.R_drew)); exact HO_313001.out) hb); have n1_ := Aside0.mk (Kd.R_lower ho0 (below_size (by repeat (first | (with_reducible first | exact HB.out | apply below_alloc | apply pw_below_drewN | apply below_drew1 | refine below_set ?_ GE312.out) | exact HB.out)))); have n2_ := Aside0.mk (blk_below (g := gb312) (o := .cells #[.int .u32 t308, .slice Ao14 t309.length co14] 42 (0, 0)) (by (with_reducible repeat (first | refine blk_drewN ?_ _ | refine blk_drew ?_ | refine blk_alloc ?_ _)); exact BK312.out) hb); have n3_ := Aside0.mk (below_step (by repeat (first | (with_reducible first | exact HB.out | apply below_alloc | apply pw_below_drewN | apply below_drew1 | refine below_set ?_ GE312.out) | exact HB.out)) hb); clear HO_313001; clear BK312; clear HB; have HO_313001 := n0_; have HO318 := n1_; have BK312 := n2_; have HB := n3_; clear n0_ n1_ n2_ n3_; (try clear hb); (try clear hb2); (try clear hk); (try clear hi); (try clear ho0); have hcz64_0 : w63.cell? ⟨gb312, 0, none⟩ = some (.int .u32 t308) := (blk_cell BK312.out 0).trans rfl; have hcz64_1 : w63.cell? ⟨gb312, 1, none⟩ = some (.slice Ao14 t309.length co14) := (blk_cell BK312.out 1).trans rfl; have hfz64_0 := blk_frozen BK312.out 0; have hfz64_1 := blk_frozen BK312.out 1) | (go_at_call 35; (with_reducible refine (spans_Find.calls t308 _ _ t309 (wrap64 (a0)) t319 _ ?side1 ?side2 A22.out).mono ?_); (case side1 => repeat (first | exact (Kd.R_reads' HO_313001.out).2.2 | (with_reducible refine Kd.C_alloc ?_ _) | (with_reducible refine Kd.C_drewN ?_ _) | (with_reducible refine Kd.C_drew ?_))); (case side2 => exact (Kd.R_reads' HO_313001.out).2.1); rintro e w65 ⟨rfl, hb⟩; have n0_ := Aside0.mk (Kd.R_below (by (with_reducible repeat (first | apply Kd.R_alloc | apply Kd.R_drewN | apply Kd.R_drew)); exact HO_313001.out) hb); have n1_ := Aside0.mk (Kd.R_below (by (with_reducible repeat (first | apply Kd.R_alloc | apply Kd.R_drewN | apply Kd.R_drew)); exact HO318.out) hb); have n2_ := Aside0.mk (blk_below (g := gb312) (o := .cells #[.int .u32 t308, .slice Ao14 t309.length co14] 42 (0, 0)) (by (with_reducible repeat (first | refine blk_drewN ?_ _ | refine blk_drew ?_ | refine blk_alloc ?_ _)); exact BK312.out) hb); have n3_ := Aside0.mk (below_step (by repeat (first | (with_reducible first | exact HB.out | apply below_alloc | apply pw_below_drewN | apply below_drew1 | refine below_set ?_ GE312.out) | exact HB.out)) hb); clear HO_313001; clear HO318; clear BK312; clear HB; have HO_313001 := n0_; have HO318 := n1_; have BK312 := n2_; have HB := n3_; clear n0_ n1_ n2_ n3_; (try clear hb); (try clear hb2); (try clear hk); (try clear hi); have hcz66_0 : w65.cell? ⟨gb312, 0, none⟩ = some (.int .u32 t308) := (blk_cell BK312.out 0).trans rfl; have hcz66_1 : w65.cell? ⟨gb312, 1, none⟩ = some (.slice Ao14 t309.length co14) := (blk_cell BK312.out 1).trans rfl; have hfz66_0 := blk_frozen BK312.out 0; have hfz66_1 := blk_frozen BK312.out 1) | (go_at_call 35; (with_reducible refine (spans_Find.calls t308 _ _ t309 (-1) t320 _ ?side1 ?side2 A24.out).mono ?_); (case side1 => repeat (first | exact (Kd.R_reads' HO_313001.out).2.2 | (with_reducible refine Kd.C_alloc ?_ _) | (with_reducible refine Kd.C_drewN ?_ _) | (with_reducible refine Kd.C_drew ?_))); (case side2 => exact (Kd.R_reads' HO_313001.out).2.1); rintro e w67 ⟨rfl, hb⟩; have n0_ := Aside0.mk (Kd.R_below (by (with_reducible repeat (first | apply Kd.R_alloc | apply Kd.R_drewN | apply Kd.R_drew)); exact HO_313001.out) hb); have n1_ := Aside0.mk (Kd.R_below (by (with_reducible repeat (first | apply Kd.R_alloc | apply Kd.R_drewN | apply Kd.R_drew)); exact HO318.out) hb); have n2_ := Aside0.mk (blk_below (g := gb312) (o := .cells #[.int .u32 t308, .slice Ao14 t309.length co14] 42 (0, 0)) (by (with_reducible repeat (first | refine blk_drewN ?_ _ | refine blk_drew ?_ | refine blk_alloc ?_ _)); exact BK312.out) hb); have n3_ := Aside0.mk (below_step (by repeat (first | (with_reducible first | exact HB.out | apply below_alloc | apply pw_below_drewN | apply below_drew1 | refine below_set ?_ GE312.out) | exact HB.out)) hb); clear HO_313001; clear HO318; clear BK312; clear HB; have HO_313001 := n0_; have HO318 := n1_; have BK312 := n2_; have HB := n3_; clear n0_ n1_ n2_ n3_; (try clear hb); (try clear hb2); (try clear hk); (try clear hi); obtain ⟨Ao68, co68, eo68⟩ := Kd.R_slice HO318.out; subst eo68; have p321 : 0 ≤ (0 : Int) := (by omega); have q321 : 0 < (t316.length : Int) := of_decide_eq_true (by first | (with_reducible assumption) | assumption); obtain ⟨ad321, e321, hx321_0⟩ := Kd.at_int (Kd.R_reads' HO318.out).2.2 0 p321 q321; cases e321; have qi321 : (0 < t316.length) = True := eq_true (by omega); (try rw [show ((0 : Int)).toNat = 0 from rfl] at hx321_0); (try rw [Addr.add_zero'] at hx321_0); replace p321 := eq_true p321; replace q321 := eq_true q321; have hcz69_0 : w67.cell? ⟨gb312, 0, none⟩ = some (.int .u32 t308) := (blk_cell BK312.out 0).trans rfl; have hcz69_1 : w67.cell? ⟨gb312, 1, none⟩ = some (.slice Ao14 t309.length co14) := (blk_cell BK312.out 1).trans rfl; have hfz69_0 := blk_frozen BK312.out 0; have hfz69_1 := blk_frozen BK312.out 1) | (go_at_call 39; (with_reducible refine (spans_Parts.calls k2 t308 _ _ t309 _ _ l1 0 t322 _ ?side1 ?side2 ?side3 ?side4 A29.out).mono ?_); (case side1 => repeat (first | exact (Kd.R_reads' HO_313001.out).2.2 | (with_reducible refine Kd.C_alloc ?_ _) | (with_reducible refine Kd.C_drewN ?_ _) | (with_reducible refine Kd.C_drew ?_))); (case side2 => exact (Kd.R_reads' HO_313001.out).2.1); (case side3 => repeat (first | exact (Kd.C_below HR1.out HB.out) | (with_reducible refine Kd.C_alloc ?_ _) | (with_reducible refine Kd.C_drewN ?_ _) | (with_reducible refine Kd.C_drew ?_))); (case side4 => exact HC1.out); rintro e w70 ⟨v323, rfl, ho0, hb⟩; have n0_ := Aside0.mk (Kd.R_below (by (with_reducible repeat (first | apply Kd.R_alloc | apply Kd.R_drewN | apply Kd.R_drew)); exact HO_313001.out) hb); have n1_ := Aside0.mk (Kd.R_below (by (with_reducible repeat (first | apply Kd.R_alloc | apply Kd.R_drewN | apply Kd.R_drew)); exact HO318.out) hb); have n2_ := Aside0.mk (Kd.R_lower (Kd.R_new' ho0 (Kd.R_lt (by (with_reducible repeat (first | apply Kd.R_alloc | apply Kd.R_drewN | apply Kd.R_drew)); exact HO318.out))) (below_size (by repeat (first | (with_reducible first | exact HB.out | apply below_alloc | apply pw_below_drewN | apply below_drew1 | refine below_set ?_ GE312.out) | exact HB.out)))); have n3_ := Aside0.mk (blk_below (g := gb312) (o := .cells #[.int .u32 t308, .slice Ao14 t309.length co14] 42 (0, 0)) (by (with_reducible repeat (first | refine blk_drewN ?_ _ | refine blk_drew ?_ | refine blk_alloc ?_ _)); exact BK312.out) hb); have n4_ := Aside0.mk (below_step (by repeat (first | (with_reducible first | exact HB.out | apply below_alloc | apply pw_below_drewN | apply below_drew1 | refine below_set ?_ GE312.out) | exact HB.out)) hb); clear HO_313001; clear HO318; clear BK312; clear HB; have HO_313001 := n0_; have HO318 := n1_; have HO324 := n2_; have BK312 := n3_; have HB := n4_; clear n0_ n1_ n2_ n3_ n4_; (try clear hb); (try clear hb2); (try clear hk); (try clear hi); (try clear ho0); obtain ⟨Ao71, co71, eo71⟩ := Kd.R_slice HO324.out; subst eo71))
                            go_ret
                            exact ⟨by first | rfl | (simp [errW_none, errW_some] <;> rfl) | (simp [*, errW_none, errW_some] <;> rfl), by repeat (first | (with_reducible first | exact HB.out | apply below_alloc | apply pw_below_drewN | apply below_drew1 | refine below_set ?_ GE312.out) | exact HB.out)⟩
                        · rw [if_neg c28] at H
                          have c28b0 : ((rd t316 0) == 0) = false := beq_eq_false_iff_ne.mpr c28
                          have c28b1 : ((rd t316 0) != 0) = true := bne_iff_ne.mpr c28
                          obtain rfl := Option.some.inj H
                          have hcz72_0 : wr.cell? ⟨gb312, 0, none⟩ = some (.int .u32 t308) := (blk_cell BK312.out 0).trans rfl
                          have hcz72_1 : wr.cell? ⟨gb312, 1, none⟩ = some (.slice Ao14 t309.length co14) := (blk_cell BK312.out 1).trans rfl
                          have hfz72_0 := blk_frozen BK312.out 0
                          have hfz72_1 := blk_frozen BK312.out 1
                          go_wp2_with (first | ((with_reducible refine gate_callee (f := 28) rfl ?_); refine goesL_ (some 51) rfl rfl Try.func28 (by kernel_rfl) rfl #[.agg #[.int .u32 t308, .slice Ao14 t309.length co14], .int .i64 (wrap64 (Int.tmod a0 1000)), .int .i64 (wrap64 ((wrap64 (Int.tmod a0 1000)) + 1))] rfl (by (try simp only [List.map_toArray, List.map_cons, List.map_nil]); first | done | rfl | (simp only [List.length_drop, List.length_take]; rfl)) ?_; (with_reducible refine (spans_Nodes.calls t308 _ _ t309 (wrap64 (Int.tmod a0 1000)) (wrap64 ((wrap64 (Int.tmod a0 1000)) + 1)) t316 _ ?side1 ?side2 A20.out).mono ?_); (case side1 => repeat (first | exact (Kd.R_reads' HO_313001.out).2.2 | (with_reducible refine Kd.C_alloc ?_ _) | (with_reducible refine Kd.C_drewN ?_ _) | (with_reducible refine Kd.C_drew ?_))); (case side2 => exact (Kd.R_reads' HO_313001.out).2.1); rintro e w73 ⟨v317, rfl, ho0, hb⟩; refine ⟨_, rfl, ?_⟩; have n0_ := Aside0.mk (Kd.R_below (by (with_reducible repeat (first | apply Kd.R_alloc | apply Kd.R_drewN | apply Kd.R_drew)); exact HO_313001.out) hb); have n1_ := Aside0.mk (Kd.R_lower ho0 (below_size (by repeat (first | (with_reducible first | exact HB.out | apply below_alloc | apply pw_below_drewN | apply below_drew1 | refine below_set ?_ GE312.out) | exact HB.out)))); have n2_ := Aside0.mk (blk_below (g := gb312) (o := .cells #[.int .u32 t308, .slice Ao14 t309.length co14] 42 (0, 0)) (by (with_reducible repeat (first | refine blk_drewN ?_ _ | refine blk_drew ?_ | refine blk_alloc ?_ _)); exact BK312.out) hb); have n3_ := Aside0.mk (below_step (by repeat (first | (with_reducible first | exact HB.out | apply below_alloc | apply pw_below_drewN | apply below_drew1 | refine below_set ?_ GE312.out) | exact HB.out)) hb); clear HO_313001; clear BK312; clear HB; have HO_313001 := n0_; have HO318 := n1_; have BK312 := n2_; have HB := n3_; clear n0_ n1_ n2_ n3_; (try clear hb); (try clear hb2); (try clear hk); (try clear hi); (try clear ho0); have hcz74_0 : w73.cell? ⟨gb312, 0, none⟩ = some (.int .u32 t308) := (blk_cell BK312.out 0).trans rfl; have hcz74_1 : w73.cell? ⟨gb312, 1, none⟩ = some (.slice Ao14 t309.length co14) := (blk_cell BK312.out 1).trans rfl; have hfz74_0 := blk_frozen BK312.out 0; have hfz74_1 := blk_frozen BK312.out 1) | (go_at_call 35; (with_reducible refine (spans_Find.calls t308 _ _ t309 (wrap64 (a0)) t319 _ ?side1 ?side2 A22.out).mono ?_); (case side1 => repeat (first | exact (Kd.R_reads' HO_313001.out).2.2 | (with_reducible refine Kd.C_alloc ?_ _) | (with_reducible refine Kd.C_drewN ?_ _) | (with_reducible refine Kd.C_drew ?_))); (case side2 => exact (Kd.R_reads' HO_313001.out).2.1); rintro e w75 ⟨rfl, hb⟩; have n0_ := Aside0.mk (Kd.R_below (by (with_reducible repeat (first | apply Kd.R_alloc | apply Kd.R_drewN | apply Kd.R_drew)); exact HO_313001.out) hb); have n1_ := Aside0.mk (Kd.R_below (by (with_reducible repeat (first | apply Kd.R_alloc | apply Kd.R_drewN | apply Kd.R_drew)); exact HO318.out) hb); have n2_ := Aside0.mk (blk_below (g := gb312) (o := .cells #[.int .u32 t308, .slice Ao14 t309.length co14] 42 (0, 0)) (by (with_reducible repeat (first | refine blk_drewN ?_ _ | refine blk_drew ?_ | refine blk_alloc ?_ _)); exact BK312.out) hb); have n3_ := Aside0.mk (below_step (by repeat (first | (with_reducible first | exact HB.out | apply below_alloc | apply pw_below_drewN | apply below_drew1 | refine below_set ?_ GE312.out) | exact HB.out)) hb); clear HO_313001; clear HO318; clear BK312; clear HB; have HO_313001 := n0_; have HO318 := n1_; have BK312 := n2_; have HB := n3_; clear n0_ n1_ n2_ n3_; (try clear hb); (try clear hb2); (try clear hk); (try clear hi); have hcz76_0 : w75.cell? ⟨gb312, 0, none⟩ = some (.int .u32 t308) := (blk_cell BK312.out 0).trans rfl; have hcz76_1 : w75.cell? ⟨gb312, 1, none⟩ = some (.slice Ao14 t309.length co14) := (blk_cell BK312.out 1).trans rfl; have hfz76_0 := blk_frozen BK312.out 0; have hfz76_1 := blk_frozen BK312.out 1) | (go_at_call 35; (with_reducible refine (spans_Find.calls t308 _ _ t309 (-1) t320 _ ?side1 ?side2 A24.out).mono ?_); (case side1 => repeat (first | exact (Kd.R_reads' HO_313001.out).2.2 | (with_reducible refine Kd.C_alloc ?_ _) | (with_reducible refine Kd.C_drewN ?_ _) | (with_reducible refine Kd.C_drew ?_))); (case side2 => exact (Kd.R_reads' HO_313001.out).2.1); rintro e w77 ⟨rfl, hb⟩; have n0_ := Aside0.mk (Kd.R_below (by (with_reducible repeat (first | apply Kd.R_alloc | apply Kd.R_drewN | apply Kd.R_drew)); exact HO_313001.out) hb); have n1_ := Aside0.mk (Kd.R_below (by (with_reducible repeat (first | apply Kd.R_alloc | apply Kd.R_drewN | apply Kd.R_drew)); exact HO318.out) hb); have n2_ := Aside0.mk (blk_below (g := gb312) (o := .cells #[.int .u32 t308, .slice Ao14 t309.length co14] 42 (0, 0)) (by (with_reducible repeat (first | refine blk_drewN ?_ _ | refine blk_drew ?_ | refine blk_alloc ?_ _)); exact BK312.out) hb); have n3_ := Aside0.mk (below_step (by repeat (first | (with_reducible first | exact HB.out | apply below_alloc | apply pw_below_drewN | apply below_drew1 | refine below_set ?_ GE312.out) | exact HB.out)) hb); clear HO_313001; clear HO318; clear BK312; clear HB; have HO_313001 := n0_; have HO318 := n1_; have BK312 := n2_; have HB := n3_; clear n0_ n1_ n2_ n3_; (try clear hb); (try clear hb2); (try clear hk); (try clear hi); obtain ⟨Ao78, co78, eo78⟩ := Kd.R_slice HO318.out; subst eo78; have p321 : 0 ≤ (0 : Int) := (by omega); have q321 : 0 < (t316.length : Int) := of_decide_eq_true (by first | (with_reducible assumption) | assumption); obtain ⟨ad321, e321, hx321_0⟩ := Kd.at_int (Kd.R_reads' HO318.out).2.2 0 p321 q321; cases e321; have qi321 : (0 < t316.length) = True := eq_true (by omega); (try rw [show ((0 : Int)).toNat = 0 from rfl] at hx321_0); (try rw [Addr.add_zero'] at hx321_0); replace p321 := eq_true p321; replace q321 := eq_true q321))
                          go_ret
                          exact ⟨by first | rfl | (simp [errW_none, errW_some] <;> rfl) | (simp [*, errW_none, errW_some] <;> rfl), by repeat (first | (with_reducible first | exact HB.out | apply below_alloc | apply pw_below_drewN | apply below_drew1 | refine below_set ?_ GE312.out) | exact HB.out)⟩
                      · rw [if_neg c27] at H
                        exact absurd H (by simp)
                    · rw [if_neg c26] at H
                      have c26b0 : ((t316.length : Int) == 1) = false := beq_eq_false_iff_ne.mpr c26
                      have c26b1 : ((t316.length : Int) != 1) = true := bne_iff_ne.mpr c26
                      obtain rfl := Option.some.inj H
                      have hcz79_0 : wr.cell? ⟨gb312, 0, none⟩ = some (.int .u32 t308) := (blk_cell BK312.out 0).trans rfl
                      have hcz79_1 : wr.cell? ⟨gb312, 1, none⟩ = some (.slice Ao14 t309.length co14) := (blk_cell BK312.out 1).trans rfl
                      have hfz79_0 := blk_frozen BK312.out 0
                      have hfz79_1 := blk_frozen BK312.out 1
                      go_wp2_with (first | ((with_reducible refine gate_callee (f := 28) rfl ?_); refine goesL_ (some 51) rfl rfl Try.func28 (by kernel_rfl) rfl #[.agg #[.int .u32 t308, .slice Ao14 t309.length co14], .int .i64 (wrap64 (Int.tmod a0 1000)), .int .i64 (wrap64 ((wrap64 (Int.tmod a0 1000)) + 1))] rfl (by (try simp only [List.map_toArray, List.map_cons, List.map_nil]); first | done | rfl | (simp only [List.length_drop, List.length_take]; rfl)) ?_; (with_reducible refine (spans_Nodes.calls t308 _ _ t309 (wrap64 (Int.tmod a0 1000)) (wrap64 ((wrap64 (Int.tmod a0 1000)) + 1)) t316 _ ?side1 ?side2 A20.out).mono ?_); (case side1 => repeat (first | exact (Kd.R_reads' HO_313001.out).2.2 | (with_reducible refine Kd.C_alloc ?_ _) | (with_reducible refine Kd.C_drewN ?_ _) | (with_reducible refine Kd.C_drew ?_))); (case side2 => exact (Kd.R_reads' HO_313001.out).2.1); rintro e w80 ⟨v317, rfl, ho0, hb⟩; refine ⟨_, rfl, ?_⟩; have n0_ := Aside0.mk (Kd.R_below (by (with_reducible repeat (first | apply Kd.R_alloc | apply Kd.R_drewN | apply Kd.R_drew)); exact HO_313001.out) hb); have n1_ := Aside0.mk (Kd.R_lower ho0 (below_size (by repeat (first | (with_reducible first | exact HB.out | apply below_alloc | apply pw_below_drewN | apply below_drew1 | refine below_set ?_ GE312.out) | exact HB.out)))); have n2_ := Aside0.mk (blk_below (g := gb312) (o := .cells #[.int .u32 t308, .slice Ao14 t309.length co14] 42 (0, 0)) (by (with_reducible repeat (first | refine blk_drewN ?_ _ | refine blk_drew ?_ | refine blk_alloc ?_ _)); exact BK312.out) hb); have n3_ := Aside0.mk (below_step (by repeat (first | (with_reducible first | exact HB.out | apply below_alloc | apply pw_below_drewN | apply below_drew1 | refine below_set ?_ GE312.out) | exact HB.out)) hb); clear HO_313001; clear BK312; clear HB; have HO_313001 := n0_; have HO318 := n1_; have BK312 := n2_; have HB := n3_; clear n0_ n1_ n2_ n3_; (try clear hb); (try clear hb2); (try clear hk); (try clear hi); (try clear ho0); have hcz81_0 : w80.cell? ⟨gb312, 0, none⟩ = some (.int .u32 t308) := (blk_cell BK312.out 0).trans rfl; have hcz81_1 : w80.cell? ⟨gb312, 1, none⟩ = some (.slice Ao14 t309.length co14) := (blk_cell BK312.out 1).trans rfl; have hfz81_0 := blk_frozen BK312.out 0; have hfz81_1 := blk_frozen BK312.out 1) | (go_at_call 35; (with_reducible refine (spans_Find.calls t308 _ _ t309 (wrap64 (a0)) t319 _ ?side1 ?side2 A22.out).mono ?_); (case side1 => repeat (first | exact (Kd.R_reads' HO_313001.out).2.2 | (with_reducible refine Kd.C_alloc ?_ _) | (with_reducible refine Kd.C_drewN ?_ _) | (with_reducible refine Kd.C_drew ?_))); (case side2 => exact (Kd.R_reads' HO_313001.out).2.1); rintro e w82 ⟨rfl, hb⟩; have n0_ := Aside0.mk (Kd.R_below (by (with_reducible repeat (first | apply Kd.R_alloc | apply Kd.R_drewN | apply Kd.R_drew)); exact HO_313001.out) hb); have n1_ := Aside0.mk (Kd.R_below (by (with_reducible repeat (first | apply Kd.R_alloc | apply Kd.R_drewN | apply Kd.R_drew)); exact HO318.out) hb); have n2_ := Aside0.mk (blk_below (g := gb312) (o := .cells #[.int .u32 t308, .slice Ao14 t309.length co14] 42 (0, 0)) (by (with_reducible repeat (first | refine blk_drewN ?_ _ | refine blk_drew ?_ | refine blk_alloc ?_ _)); exact BK312.out) hb); have n3_ := Aside0.mk (below_step (by repeat (first | (with_reducible first | exact HB.out | apply below_alloc | apply pw_below_drewN | apply below_drew1 | refine below_set ?_ GE312.out) | exact HB.out)) hb); clear HO_313001; clear HO318; clear BK312; clear HB; have HO_313001 := n0_; have HO318 := n1_; have BK312 := n2_; have HB := n3_; clear n0_ n1_ n2_ n3_; (try clear hb); (try clear hb2); (try clear hk); (try clear hi); have hcz83_0 : w82.cell? ⟨gb312, 0, none⟩ = some (.int .u32 t308) := (blk_cell BK312.out 0).trans rfl; have hcz83_1 : w82.cell? ⟨gb312, 1, none⟩ = some (.slice Ao14 t309.length co14) := (blk_cell BK312.out 1).trans rfl; have hfz83_0 := blk_frozen BK312.out 0; have hfz83_1 := blk_frozen BK312.out 1) | (go_at_call 35; (with_reducible refine (spans_Find.calls t308 _ _ t309 (-1) t320 _ ?side1 ?side2 A24.out).mono ?_); (case side1 => repeat (first | exact (Kd.R_reads' HO_313001.out).2.2 | (with_reducible refine Kd.C_alloc ?_ _) | (with_reducible refine Kd.C_drewN ?_ _) | (with_reducible refine Kd.C_drew ?_))); (case side2 => exact (Kd.R_reads' HO_313001.out).2.1); rintro e w84 ⟨rfl, hb⟩; have n0_ := Aside0.mk (Kd.R_below (by (with_reducible repeat (first | apply Kd.R_alloc | apply Kd.R_drewN | apply Kd.R_drew)); exact HO_313001.out) hb); have n1_ := Aside0.mk (Kd.R_below (by (with_reducible repeat (first | apply Kd.R_alloc | apply Kd.R_drewN | apply Kd.R_drew)); exact HO318.out) hb); have n2_ := Aside0.mk (blk_below (g := gb312) (o := .cells #[.int .u32 t308, .slice Ao14 t309.length co14] 42 (0, 0)) (by (with_reducible repeat (first | refine blk_drewN ?_ _ | refine blk_drew ?_ | refine blk_alloc ?_ _)); exact BK312.out) hb); have n3_ := Aside0.mk (below_step (by repeat (first | (with_reducible first | exact HB.out | apply below_alloc | apply pw_below_drewN | apply below_drew1 | refine below_set ?_ GE312.out) | exact HB.out)) hb); clear HO_313001; clear HO318; clear BK312; clear HB; have HO_313001 := n0_; have HO318 := n1_; have BK312 := n2_; have HB := n3_; clear n0_ n1_ n2_ n3_; (try clear hb); (try clear hb2); (try clear hk); (try clear hi); obtain ⟨Ao85, co85, eo85⟩ := Kd.R_slice HO318.out; subst eo85))
                      go_ret
                      exact ⟨by first | rfl | (simp [errW_none, errW_some] <;> rfl) | (simp [*, errW_none, errW_some] <;> rfl), by repeat (first | (with_reducible first | exact HB.out | apply below_alloc | apply pw_below_drewN | apply below_drew1 | refine below_set ?_ GE312.out) | exact HB.out)⟩
                  · rw [if_neg c25] at H
                    have c25b0 : (t320 == (-1)) = false := beq_eq_false_iff_ne.mpr c25
                    have c25b1 : (t320 != (-1)) = true := bne_iff_ne.mpr c25
                    obtain rfl := Option.some.inj H
                    have hcz86_0 : wr.cell? ⟨gb312, 0, none⟩ = some (.int .u32 t308) := (blk_cell BK312.out 0).trans rfl
                    have hcz86_1 : wr.cell? ⟨gb312, 1, none⟩ = some (.slice Ao14 t309.length co14) := (blk_cell BK312.out 1).trans rfl
                    have hfz86_0 := blk_frozen BK312.out 0
                    have hfz86_1 := blk_frozen BK312.out 1
                    go_wp2_with (first | ((with_reducible refine gate_callee (f := 28) rfl ?_); refine goesL_ (some 51) rfl rfl Try.func28 (by kernel_rfl) rfl #[.agg #[.int .u32 t308, .slice Ao14 t309.length co14], .int .i64 (wrap64 (Int.tmod a0 1000)), .int .i64 (wrap64 ((wrap64 (Int.tmod a0 1000)) + 1))] rfl (by (try simp only [List.map_toArray, List.map_cons, List.map_nil]); first | done | rfl | (simp only [List.length_drop, List.length_take]; rfl)) ?_; (with_reducible refine (spans_Nodes.calls t308 _ _ t309 (wrap64 (Int.tmod a0 1000)) (wrap64 ((wrap64 (Int.tmod a0 1000)) + 1)) t316 _ ?side1 ?side2 A20.out).mono ?_); (case side1 => repeat (first | exact (Kd.R_reads' HO_313001.out).2.2 | (with_reducible refine Kd.C_alloc ?_ _) | (with_reducible refine Kd.C_drewN ?_ _) | (with_reducible refine Kd.C_drew ?_))); (case side2 => exact (Kd.R_reads' HO_313001.out).2.1); rintro e w87 ⟨v317, rfl, ho0, hb⟩; refine ⟨_, rfl, ?_⟩; have n0_ := Aside0.mk (Kd.R_below (by (with_reducible repeat (first | apply Kd.R_alloc | apply Kd.R_drewN | apply Kd.R_drew)); exact HO_313001.out) hb); have n1_ := Aside0.mk (Kd.R_lower ho0 (below_size (by repeat (first | (with_reducible first | exact HB.out | apply below_alloc | apply pw_below_drewN | apply below_drew1 | refine below_set ?_ GE312.out) | exact HB.out)))); have n2_ := Aside0.mk (blk_below (g := gb312) (o := .cells #[.int .u32 t308, .slice Ao14 t309.length co14] 42 (0, 0)) (by (with_reducible repeat (first | refine blk_drewN ?_ _ | refine blk_drew ?_ | refine blk_alloc ?_ _)); exact BK312.out) hb); have n3_ := Aside0.mk (below_step (by repeat (first | (with_reducible first | exact HB.out | apply below_alloc | apply pw_below_drewN | apply below_drew1 | refine below_set ?_ GE312.out) | exact HB.out)) hb); clear HO_313001; clear BK312; clear HB; have HO_313001 := n0_; have HO318 := n1_; have BK312 := n2_; have HB := n3_; clear n0_ n1_ n2_ n3_; (try clear hb); (try clear hb2); (try clear hk); (try clear hi); (try clear ho0); have hcz88_0 : w87.cell? ⟨gb312, 0, none⟩ = some (.int .u32 t308) := (blk_cell BK312.out 0).trans rfl; have hcz88_1 : w87.cell? ⟨gb312, 1, none⟩ = some (.slice Ao14 t309.length co14) := (blk_cell BK312.out 1).trans rfl; have hfz88_0 := blk_frozen BK312.out 0; have hfz88_1 := blk_frozen BK312.out 1) | (go_at_call 35; (with_reducible refine (spans_Find.calls t308 _ _ t309 (wrap64 (a0)) t319 _ ?side1 ?side2 A22.out).mono ?_); (case side1 => repeat (first | exact (Kd.R_reads' HO_313001.out).2.2 | (with_reducible refine Kd.C_alloc ?_ _) | (with_reducible refine Kd.C_drewN ?_ _) | (with_reducible refine Kd.C_drew ?_))); (case side2 => exact (Kd.R_reads' HO_313001.out).2.1); rintro e w89 ⟨rfl, hb⟩; have n0_ := Aside0.mk (Kd.R_below (by (with_reducible repeat (first | apply Kd.R_alloc | apply Kd.R_drewN | apply Kd.R_drew)); exact HO_313001.out) hb); have n1_ := Aside0.mk (Kd.R_below (by (with_reducible repeat (first | apply Kd.R_alloc | apply Kd.R_drewN | apply Kd.R_drew)); exact HO318.out) hb); have n2_ := Aside0.mk (blk_below (g := gb312) (o := .cells #[.int .u32 t308, .slice Ao14 t309.length co14] 42 (0, 0)) (by (with_reducible repeat (first | refine blk_drewN ?_ _ | refine blk_drew ?_ | refine blk_alloc ?_ _)); exact BK312.out) hb); have n3_ := Aside0.mk (below_step (by repeat (first | (with_reducible first | exact HB.out | apply below_alloc | apply pw_below_drewN | apply below_drew1 | refine below_set ?_ GE312.out) | exact HB.out)) hb); clear HO_313001; clear HO318; clear BK312; clear HB; have HO_313001 := n0_; have HO318 := n1_; have BK312 := n2_; have HB := n3_; clear n0_ n1_ n2_ n3_; (try clear hb); (try clear hb2); (try clear hk); (try clear hi); have hcz90_0 : w89.cell? ⟨gb312, 0, none⟩ = some (.int .u32 t308) := (blk_cell BK312.out 0).trans rfl; have hcz90_1 : w89.cell? ⟨gb312, 1, none⟩ = some (.slice Ao14 t309.length co14) := (blk_cell BK312.out 1).trans rfl; have hfz90_0 := blk_frozen BK312.out 0; have hfz90_1 := blk_frozen BK312.out 1) | (go_at_call 35; (with_reducible refine (spans_Find.calls t308 _ _ t309 (-1) t320 _ ?side1 ?side2 A24.out).mono ?_); (case side1 => repeat (first | exact (Kd.R_reads' HO_313001.out).2.2 | (with_reducible refine Kd.C_alloc ?_ _) | (with_reducible refine Kd.C_drewN ?_ _) | (with_reducible refine Kd.C_drew ?_))); (case side2 => exact (Kd.R_reads' HO_313001.out).2.1); rintro e w91 ⟨rfl, hb⟩; have n0_ := Aside0.mk (Kd.R_below (by (with_reducible repeat (first | apply Kd.R_alloc | apply Kd.R_drewN | apply Kd.R_drew)); exact HO_313001.out) hb); have n1_ := Aside0.mk (Kd.R_below (by (with_reducible repeat (first | apply Kd.R_alloc | apply Kd.R_drewN | apply Kd.R_drew)); exact HO318.out) hb); have n2_ := Aside0.mk (blk_below (g := gb312) (o := .cells #[.int .u32 t308, .slice Ao14 t309.length co14] 42 (0, 0)) (by (with_reducible repeat (first | refine blk_drewN ?_ _ | refine blk_drew ?_ | refine blk_alloc ?_ _)); exact BK312.out) hb); have n3_ := Aside0.mk (below_step (by repeat (first | (with_reducible first | exact HB.out | apply below_alloc | apply pw_below_drewN | apply below_drew1 | refine below_set ?_ GE312.out) | exact HB.out)) hb); clear HO_313001; clear HO318; clear BK312; clear HB; have HO_313001 := n0_; have HO318 := n1_; have BK312 := n2_; have HB := n3_; clear n0_ n1_ n2_ n3_; (try clear hb); (try clear hb2); (try clear hk); (try clear hi)))
                    go_ret
                    exact ⟨by first | rfl | (simp [errW_none, errW_some] <;> rfl) | (simp [*, errW_none, errW_some] <;> rfl), by repeat (first | (with_reducible first | exact HB.out | apply below_alloc | apply pw_below_drewN | apply below_drew1 | refine below_set ?_ GE312.out) | exact HB.out)⟩
                · rw [if_neg c23] at H
                  have c23b0 : (t319 == 0) = false := beq_eq_false_iff_ne.mpr c23
                  have c23b1 : (t319 != 0) = true := bne_iff_ne.mpr c23
                  obtain rfl := Option.some.inj H
                  have hcz92_0 : wr.cell? ⟨gb312, 0, none⟩ = some (.int .u32 t308) := (blk_cell BK312.out 0).trans rfl
                  have hcz92_1 : wr.cell? ⟨gb312, 1, none⟩ = some (.slice Ao14 t309.length co14) := (blk_cell BK312.out 1).trans rfl
                  have hfz92_0 := blk_frozen BK312.out 0
                  have hfz92_1 := blk_frozen BK312.out 1
                  go_wp2_with (first | ((with_reducible refine gate_callee (f := 28) rfl ?_); refine goesL_ (some 51) rfl rfl Try.func28 (by kernel_rfl) rfl #[.agg #[.int .u32 t308, .slice Ao14 t309.length co14], .int .i64 (wrap64 (Int.tmod a0 1000)), .int .i64 (wrap64 ((wrap64 (Int.tmod a0 1000)) + 1))] rfl (by (try simp only [List.map_toArray, List.map_cons, List.map_nil]); first | done | rfl | (simp only [List.length_drop, List.length_take]; rfl)) ?_; (with_reducible refine (spans_Nodes.calls t308 _ _ t309 (wrap64 (Int.tmod a0 1000)) (wrap64 ((wrap64 (Int.tmod a0 1000)) + 1)) t316 _ ?side1 ?side2 A20.out).mono ?_); (case side1 => repeat (first | exact (Kd.R_reads' HO_313001.out).2.2 | (with_reducible refine Kd.C_alloc ?_ _) | (with_reducible refine Kd.C_drewN ?_ _) | (with_reducible refine Kd.C_drew ?_))); (case side2 => exact (Kd.R_reads' HO_313001.out).2.1); rintro e w93 ⟨v317, rfl, ho0, hb⟩; refine ⟨_, rfl, ?_⟩; have n0_ := Aside0.mk (Kd.R_below (by (with_reducible repeat (first | apply Kd.R_alloc | apply Kd.R_drewN | apply Kd.R_drew)); exact HO_313001.out) hb); have n1_ := Aside0.mk (Kd.R_lower ho0 (below_size (by repeat (first | (with_reducible first | exact HB.out | apply below_alloc | apply pw_below_drewN | apply below_drew1 | refine below_set ?_ GE312.out) | exact HB.out)))); have n2_ := Aside0.mk (blk_below (g := gb312) (o := .cells #[.int .u32 t308, .slice Ao14 t309.length co14] 42 (0, 0)) (by (with_reducible repeat (first | refine blk_drewN ?_ _ | refine blk_drew ?_ | refine blk_alloc ?_ _)); exact BK312.out) hb); have n3_ := Aside0.mk (below_step (by repeat (first | (with_reducible first | exact HB.out | apply below_alloc | apply pw_below_drewN | apply below_drew1 | refine below_set ?_ GE312.out) | exact HB.out)) hb); clear HO_313001; clear BK312; clear HB; have HO_313001 := n0_; have HO318 := n1_; have BK312 := n2_; have HB := n3_; clear n0_ n1_ n2_ n3_; (try clear hb); (try clear hb2); (try clear hk); (try clear hi); (try clear ho0); have hcz94_0 : w93.cell? ⟨gb312, 0, none⟩ = some (.int .u32 t308) := (blk_cell BK312.out 0).trans rfl; have hcz94_1 : w93.cell? ⟨gb312, 1, none⟩ = some (.slice Ao14 t309.length co14) := (blk_cell BK312.out 1).trans rfl; have hfz94_0 := blk_frozen BK312.out 0; have hfz94_1 := blk_frozen BK312.out 1) | (go_at_call 35; (with_reducible refine (spans_Find.calls t308 _ _ t309 (wrap64 (a0)) t319 _ ?side1 ?side2 A22.out).mono ?_); (case side1 => repeat (first | exact (Kd.R_reads' HO_313001.out).2.2 | (with_reducible refine Kd.C_alloc ?_ _) | (with_reducible refine Kd.C_drewN ?_ _) | (with_reducible refine Kd.C_drew ?_))); (case side2 => exact (Kd.R_reads' HO_313001.out).2.1); rintro e w95 ⟨rfl, hb⟩; have n0_ := Aside0.mk (Kd.R_below (by (with_reducible repeat (first | apply Kd.R_alloc | apply Kd.R_drewN | apply Kd.R_drew)); exact HO_313001.out) hb); have n1_ := Aside0.mk (Kd.R_below (by (with_reducible repeat (first | apply Kd.R_alloc | apply Kd.R_drewN | apply Kd.R_drew)); exact HO318.out) hb); have n2_ := Aside0.mk (blk_below (g := gb312) (o := .cells #[.int .u32 t308, .slice Ao14 t309.length co14] 42 (0, 0)) (by (with_reducible repeat (first | refine blk_drewN ?_ _ | refine blk_drew ?_ | refine blk_alloc ?_ _)); exact BK312.out) hb); have n3_ := Aside0.mk (below_step (by repeat (first | (with_reducible first | exact HB.out | apply below_alloc | apply pw_below_drewN | apply below_drew1 | refine below_set ?_ GE312.out) | exact HB.out)) hb); clear HO_313001; clear HO318; clear BK312; clear HB; have HO_313001 := n0_; have HO318 := n1_; have BK312 := n2_; have HB := n3_; clear n0_ n1_ n2_ n3_; (try clear hb); (try clear hb2); (try clear hk); (try clear hi)))
                  go_ret
                  exact ⟨by first | rfl | (simp [errW_none, errW_some] <;> rfl) | (simp [*, errW_none, errW_some] <;> rfl), by repeat (first | (with_reducible first | exact HB.out | apply below_alloc | apply pw_below_drewN | apply below_drew1 | refine below_set ?_ GE312.out) | exact HB.out)⟩
              · rw [if_neg c21] at H
                have c21b0 : (t308 == 1) = false := beq_eq_false_iff_ne.mpr c21
                have c21b1 : (t308 != 1) = true := bne_iff_ne.mpr c21
                obtain rfl := Option.some.inj H
                have hcz96_0 : wr.cell? ⟨gb312, 0, none⟩ = some (.int .u32 t308) := (blk_cell BK312.out 0).trans rfl
                have hcz96_1 : wr.cell? ⟨gb312, 1, none⟩ = some (.slice Ao14 t309.length co14) := (blk_cell BK312.out 1).trans rfl
                have hfz96_0 := blk_frozen BK312.out 0
                have hfz96_1 := blk_frozen BK312.out 1
                go_wp2_with (first | ((with_reducible refine gate_callee (f := 28) rfl ?_); refine goesL_ (some 51) rfl rfl Try.func28 (by kernel_rfl) rfl #[.agg #[.int .u32 t308, .slice Ao14 t309.length co14], .int .i64 (wrap64 (Int.tmod a0 1000)), .int .i64 (wrap64 ((wrap64 (Int.tmod a0 1000)) + 1))] rfl (by (try simp only [List.map_toArray, List.map_cons, List.map_nil]); first | done | rfl | (simp only [List.length_drop, List.length_take]; rfl)) ?_; (with_reducible refine (spans_Nodes.calls t308 _ _ t309 (wrap64 (Int.tmod a0 1000)) (wrap64 ((wrap64 (Int.tmod a0 1000)) + 1)) t316 _ ?side1 ?side2 A20.out).mono ?_); (case side1 => repeat (first | exact (Kd.R_reads' HO_313001.out).2.2 | (with_reducible refine Kd.C_alloc ?_ _) | (with_reducible refine Kd.C_drewN ?_ _) | (with_reducible refine Kd.C_drew ?_))); (case side2 => exact (Kd.R_reads' HO_313001.out).2.1); rintro e w97 ⟨v317, rfl, ho0, hb⟩; refine ⟨_, rfl, ?_⟩; have n0_ := Aside0.mk (Kd.R_below (by (with_reducible repeat (first | apply Kd.R_alloc | apply Kd.R_drewN | apply Kd.R_drew)); exact HO_313001.out) hb); have n1_ := Aside0.mk (Kd.R_lower ho0 (below_size (by repeat (first | (with_reducible first | exact HB.out | apply below_alloc | apply pw_below_drewN | apply below_drew1 | refine below_set ?_ GE312.out) | exact HB.out)))); have n2_ := Aside0.mk (blk_below (g := gb312) (o := .cells #[.int .u32 t308, .slice Ao14 t309.length co14] 42 (0, 0)) (by (with_reducible repeat (first | refine blk_drewN ?_ _ | refine blk_drew ?_ | refine blk_alloc ?_ _)); exact BK312.out) hb); have n3_ := Aside0.mk (below_step (by repeat (first | (with_reducible first | exact HB.out | apply below_alloc | apply pw_below_drewN | apply below_drew1 | refine below_set ?_ GE312.out) | exact HB.out)) hb); clear HO_313001; clear BK312; clear HB; have HO_313001 := n0_; have HO318 := n1_; have BK312 := n2_; have HB := n3_; clear n0_ n1_ n2_ n3_; (try clear hb); (try clear hb2); (try clear hk); (try clear hi); (try clear ho0); have hcz98_0 : w97.cell? ⟨gb312, 0, none⟩ = some (.int .u32 t308) := (blk_cell BK312.out 0).trans rfl; have hcz98_1 : w97.cell? ⟨gb312, 1, none⟩ = some (.slice Ao14 t309.length co14) := (blk_cell BK312.out 1).trans rfl; have hfz98_0 := blk_frozen BK312.out 0; have hfz98_1 := blk_frozen BK312.out 1))
                go_ret
                exact ⟨by first | rfl | (simp [errW_none, errW_some] <;> rfl) | (simp [*, errW_none, errW_some] <;> rfl), by repeat (first | (with_reducible first | exact HB.out | apply below_alloc | apply pw_below_drewN | apply below_drew1 | refine below_set ?_ GE312.out) | exact HB.out)⟩
end Go.Proofs.Ytbpdejbkfpkphaa.K
end

section
-- from SpQ
namespace Go.Proofs.Ytbpdejbkfpkphaa.K
open Go Go.RowKit Go.Proofs.YtbpdejbkfpkphaaW.PrintWords Go.Proofs.YtbpdejbkfpkphaaW.PrintLast Go.Proofs.YtbpdejbkfpkphaaW.PrintMore
abbrev TFa := S77
abbrev rdFa (l : List TFa) (i : Int) : TFa := rd_T77 l i
theorem known_ge (k : Nat) (hk : 20 ≤ k) : stratumlaw12_known.f k = some true := by
  induction k with
  | zero => omega
  | succ k ih =>
    by_cases h : k + 1 = 20
    · rw [h]; exact known_ok
    · exact stratumlaw12_known.mono k _ (ih (by omega))
/-- The part of node n. -/
def inPart (l : List TSp) (n : Int) (x : TFa) : Bool := decide (0 < x.f0.length) && decide (findL l (rd x.f0 0) = n)
def partsL (l : List TSp) (xs : List TFa) (n : Int) : List TFa := xs.filter (inPart l n)
theorem rdFa_get (xs : List TFa) (i : Nat) (h : i < xs.length) : rdFa xs (i : Int) = xs[i] := by
  show xs.getD (i : Int).toNat _ = _
  rw [Int.toNat_natCast, List.getD_eq_getElem?_getD, List.getElem?_eq_getElem h]; rfl
theorem drop_cons {α : Type} (xs : List α) (i : Nat) (h : i < xs.length) : xs.drop i = xs[i] :: xs.drop (i + 1) := by rw [List.drop_eq_getElem_cons h]
theorem wrap_nat (i : Nat) (h : (i : Int) ≤ 8796093022208) : wrap64 ((i : Int) + 1) = ((i + 1 : Nat) : Int) := by unfold wrap64; omega
theorem find_ok (a : Int) (l : List TSp) (m : Int) (h : (l.length : Int) ≤ 8796093022208) : spans_Find.f a l m = some (findL l m) := by unfold spans_Find.f; rw [if_pos h]
theorem nodes_ok (a : Int) (l : List TSp) (b c : Int) (h : (l.length : Int) ≤ 8796093022208) : spans_Nodes.f a l b c = some (nodesL l b c) := by unfold spans_Nodes.f; rw [if_pos h]
theorem parts_l0 (a : Int) (l : List TSp) (hl : (l.length : Int) ≤ 8796093022208) (xs : List TFa) (hxs : xs.length ≤ 1000000) (hk : ∀ x ∈ xs, (x.f0.length : Int) ≤ 17592186044416) (n : Int) :
    ∀ (k i : Nat) (out : List TFa), i ≤ xs.length → xs.length - i < k → out.length ≤ i → spans_Parts.l0 k n out xs xs.length i a l = some (out ++ partsL l (xs.drop i) n)
  | 0, _, _, _, h, _ => by omega
  | k + 1, i, out, hi, hki, ho => by
    unfold spans_Parts.l0
    by_cases hlt : i < xs.length
    · have h1 : rd_T77 xs (i : Int) = xs[i] := rdFa_get xs i hlt
      have hkey := hk xs[i] (List.getElem_mem hlt)
      rw [if_pos (by omega), if_pos (by omega), if_pos (by omega), h1, drop_cons xs i hlt, wrap_nat i (by omega)]
      by_cases hp : 0 < xs[i].f0.length
      · rw [if_pos (by omega), if_pos (by omega), find_ok _ _ _ hl]
        simp only [Option.bind_some]
        by_cases hf : findL l (rd xs[i].f0 0) = n
        · rw [if_pos hf]
          have hc : slices_Clone_int_int.f xs[i].f0 = some xs[i].f0 := by unfold slices_Clone_int_int.f; rw [if_pos hkey]
          rw [hc]
          simp only [Option.bind_some]
          rw [if_pos (by omega), parts_l0 a l hl xs hxs hk n k (i + 1) _ (by omega) (by omega) (by simp; omega)]
          have hin : inPart l n xs[i] = true := by simp [inPart, hp, hf]
          unfold partsL
          rw [List.filter_cons_of_pos hin, List.append_assoc]; rfl
        · rw [if_neg hf, parts_l0 a l hl xs hxs hk n k (i + 1) _ (by omega) (by omega) (by omega)]
          have hin : inPart l n xs[i] = false := by simp [inPart, hf]
          unfold partsL
          rw [List.filter_cons_of_neg (by rw [hin]; decide)]
      · rw [if_neg (by omega), parts_l0 a l hl xs hxs hk n k (i + 1) _ (by omega) (by omega) (by omega)]
        have hin : inPart l n xs[i] = false := by simp [inPart, hp]
        unfold partsL
        rw [List.filter_cons_of_neg (by rw [hin]; decide)]
    · rw [if_neg (by omega), List.drop_eq_nil_of_le (by omega)]
      simp [partsL]
theorem parts_ok (k : Nat) (a : Int) (l : List TSp) (hl : (l.length : Int) ≤ 8796093022208) (xs : List TFa) (hxs : xs.length ≤ 1000000) (hk : ∀ x ∈ xs, (x.f0.length : Int) ≤ 17592186044416) (n : Int) (hkk : xs.length < k) : spans_Parts.f k a l xs n = some (partsL l xs n) := by
  unfold spans_Parts.f
  have := parts_l0 a l hl xs hxs hk n k 0 [] (by omega) (by omega) (by simp)
  simpa using this
/-- Facts of a member that is not below 0. -/
def goodF (x : TFa) : Bool := decide (0 < x.f0.length) && decide (0 ≤ rd x.f0 0)
def oneL : List TSp := [⟨0, 0⟩]
theorem findL_one (m : Int) : findL oneL m = if 0 ≤ m then 0 else -1 := by
  unfold findL oneL
  by_cases h : 0 ≤ m <;> simp [h]
theorem oneL_len : (oneL.length : Int) ≤ 8796093022208 := by decide
theorem inPart_one0 (x : TFa) : inPart oneL 0 x = goodF x := by
  unfold inPart goodF
  rw [findL_one]
  by_cases h : 0 ≤ rd x.f0 0 <;> simp [h]
theorem inPart_one1 (x : TFa) : inPart oneL 1 x = false := by
  unfold inPart
  rw [findL_one]
  by_cases h : 0 ≤ rd x.f0 0 <;> simp [h]
theorem nodesL_one (v : Int) (h0 : 0 ≤ v) (h1 : v < 1000) : nodesL oneL v (v + 1) = [0] := by
  have hb : ∀ x, heldB oneL (loN v) (hiN (v + 1)) x = decide (x = 0) := by
    intro x
    have e1 : mx v 0 = v := by unfold mx; split <;> omega
    have e2 : mn (v + 1) 10000 = v + 1 := by unfold mn; split <;> omega
    have : heldB oneL (loN v) (hiN (v + 1)) x = true ↔ x = 0 := by
      rw [heldB_iff]
      show (∃ u, mx v 0 ≤ u ∧ u < mn (v + 1) 10000 ∧ _) ↔ _
      rw [e1, e2]
      constructor
      · rintro ⟨u, h2, h3, rfl⟩
        rw [findL_one, if_pos (by omega)]
      · rintro rfl
        exact ⟨v, by omega, by omega, by rw [findL_one, if_pos h0]⟩
    by_cases hx : x = 0
    · rw [this.2 hx]; simp [hx]
    · have : heldB oneL (loN v) (hiN (v + 1)) x = false := by
        cases hh : heldB oneL (loN v) (hiN (v + 1)) x
        · rfl
        · exact absurd (this.1 hh) hx
      rw [this]; simp [hx]
  unfold nodesL
  simp [hb]
theorem sound_one : spans_Sound.f 5 1 oneL 1 1 = some true := by kernel_rfl
theorem sound_ge (k : Nat) (hk : 5 ≤ k) : spans_Sound.f k 1 oneL 1 1 = some true := by
  induction k with
  | zero => omega
  | succ k ih =>
    by_cases h : k + 1 = 5
    · rw [h]; exact sound_one
    · exact spans_Sound.mono _ _ _ _ k _ (ih (by omega))
theorem new_l0 (m : Int) (hm0 : 0 ≤ m) (hm1 : m < 65536) (xs : List TFa) (hxs : xs.length ≤ 100) (hk : ∀ x ∈ xs, (x.f0.length : Int) ≤ 17592186044416) :
    ∀ (k i : Nat), i ≤ xs.length → xs.length - i + 200 < k → stratumlaw12_SpansNew.l0 k m xs (((xs.take i).filter goodF).length : Int) i 1 oneL = some true
  | 0, _, _, h => by omega
  | k + 1, i, hi, hki => by
    unfold stratumlaw12_SpansNew.l0
    by_cases hlt : i < xs.length
    · have h1 : rd_T77 xs (i : Int) = xs[i] := rdFa_get xs i hlt
      have ht : xs.take (i + 1) = xs.take i ++ [xs[i]] := by rw [List.take_add_one, List.getElem?_eq_getElem hlt]; rfl
      have hlen : ((xs.take i).filter goodF).length ≤ 100 := Nat.le_trans (List.length_filter_le _ _) (by simp; omega)
      have ih := new_l0 m hm0 hm1 xs hxs hk k (i + 1) (by omega) (by omega)
      rw [ht, List.filter_append, List.length_append] at ih
      rw [if_pos (by omega), if_pos (by omega), h1, wrap_nat i (by omega)]
      by_cases hp : 0 < xs[i].f0.length
      · rw [if_pos (by omega), if_pos (by omega)]
        by_cases hg : rd xs[i].f0 0 ≥ 0
        · rw [if_pos hg, wrap_nat _ (by omega)]
          have hin : goodF xs[i] = true := by simp [goodF, hp]; exact hg
          rw [List.filter_cons_of_pos hin] at ih
          exact ih
        · rw [if_neg hg]
          have hin : ¬ goodF xs[i] = true := by simp [goodF, hp]; omega
          rw [List.filter_cons_of_neg hin] at ih
          exact ih
      · rw [if_neg (by omega)]
        have hin : ¬ goodF xs[i] = true := by simp [goodF]; omega
        rw [List.filter_cons_of_neg hin] at ih
        exact ih
    · obtain rfl : i = xs.length := by omega
      rw [if_neg (by omega), List.take_length]
      have hq : wrap64 (Int.tmod m 1000) = m % 1000 := by
        rw [Int.tmod_eq_emod_of_nonneg hm0]; unfold wrap64; omega
      have hq1 : wrap64 (wrap64 (Int.tmod m 1000) + 1) = m % 1000 + 1 := by rw [hq]; unfold wrap64; omega
      rw [nodes_ok _ _ _ _ oneL_len, hq1, hq, nodesL_one _ (by omega) (by omega)]
      simp only [Option.bind_some]
      rw [if_pos trivial, find_ok _ _ _ oneL_len, show wrap64 m = m by unfold wrap64; omega, findL_one, if_pos hm0]
      simp only [Option.bind_some]
      rw [if_pos trivial, find_ok _ _ _ oneL_len, findL_one, if_neg (by omega)]
      simp only [Option.bind_some]
      rw [if_pos trivial, if_pos (by decide), if_pos (by decide), if_pos (by decide), parts_ok k 1 oneL oneL_len xs (by omega) hk 0 (by omega)]
      simp only [Option.bind_some]
      rw [if_pos (by unfold partsL; rw [show inPart oneL 0 = goodF from funext inPart_one0]), parts_ok k 1 oneL oneL_len xs (by omega) hk 1 (by omega)]
      simp only [Option.bind_some]
      rw [if_pos (by unfold partsL; rw [show inPart oneL 1 = (fun _ => false) from funext inPart_one1]; simp), sound_ge k (by omega)]
      rfl
/-- SpansNew answers true. -/
theorem new_true (k : Nat) (hkk : 400 ≤ k) (m : Int) (hm0 : 0 ≤ m) (hm1 : m < 65536) (xs : List TFa) (hk : ∀ x ∈ xs, (x.f0.length : Int) ≤ 17592186044416) : stratumlaw12_SpansNew.f (k + 1) m xs = some true := by
  unfold stratumlaw12_SpansNew.f
  by_cases h : (xs.length : Int) > 100
  · rw [if_pos h]
    rw [stratumlaw12_SpansNew.j0]
    rw [if_pos rfl, known_ge _ (by omega)]; rfl
  · rw [if_neg h, known_ge _ (by omega)]
    simp only [Option.bind_some, Bool.not_true]
    rw [stratumlaw12_SpansNew.j0]
    rw [if_neg (by decide)]
    have := new_l0 m hm0 hm1 xs (by omega) hk k 0 (by omega) (by omega)
    simpa [spans_New.f, oneL] using this
end Go.Proofs.Ytbpdejbkfpkphaa.K
end

section
-- from SpW1
namespace Go.Proofs.Ytbpdejbkfpkphaa.My
open Go Go.RowKit Go.Proofs.YtbpdejbkfpkphaaW.PrintWords
theorem spansNew_walk (n : Nat) (A : Option Addr) (c : Nat) (l : List K.S77) (w : World) (hn : n < 65536) (hC : K.k77.C w A l.length l) (hc : l.length ≤ c) (hk : ∀ x ∈ l, (x.f0.length : Int) ≤ 17592186044416) :
    Calls Try.prog 13 #[.int .u16 (n : Int), .slice A l.length c] w fun e w' => e = .returned (.bool true) ∧ Below w.heap.size w w' :=
  K.stratumlaw12_SpansNew.calls (999 + 1) n A c l true w hC hc (K.new_true 999 (by omega) n (by omega) (by omega) l hk)
end Go.Proofs.Ytbpdejbkfpkphaa.My
end

section
-- from Came
namespace Go.Proofs.Ytbpdejbkfpkphaa.My
open Go Go.RowKit Go.Deep Go.ChangeShapes Go.WideShapes Go.ChangeAt Go.Proofs.YtbpdejbkfpkphaaW.PrintWords
/-- A value of type t that came in reads as a v of kind d, of which ok holds and which is no heavier than the datum's bulk. -/
def Came {α : Type} (d : Kd α) (t : TypeId) (ok : α → Prop) (wt : α → Nat) : Prop :=
  ∀ {H : Type} (enc : TypeId × Value → H) (w : World) (fuel : Nat) (cs : List Value) (x : DataW H × List MemPlace), DataW.trod enc Try.prog w 0 (fun _ => true) true fuel t cs = some x → ∃ v : α, d.K w v cs ∧ ok v ∧ wt v ≤ Rows.uptoBulk x.1
theorem came_int {k : IntKind} {t : TypeId} (ht : Try.prog.underlying t = some (.int k)) : Came (Kd.int k) t (fun n => (Lit.int k n).wf = true) (fun _ => 1) := by
  intro H enc w fuel cs x h
  obtain ⟨n, rfl, hx, hw⟩ := DataW.trod_int ht h
  exact ⟨n, rfl, hw, by rw [hx]; simp [Rows.uptoBulk]⟩
theorem pick_all {α : Type} [Inhabited α] {n : Nat} {p : Nat → α → Prop} (h : ∀ i, i < n → ∃ x, p i x) : ∃ f : Nat → α, ∀ i, i < n → p i (f i) := by
  classical
  refine ⟨fun i => if h' : i < n then Classical.choose (h i h') else default, fun i hi => ?_⟩
  simp only [dif_pos hi]
  exact Classical.choose_spec (h i hi)
theorem cells_get {w : World} {a : Addr} {n : Nat} {cs : List Value} (h : w.cells? 0 a n = some cs) (i : Nat) (v : Value) (hi : cs[i]? = some v) : w.cell? (a.add i) = some v := by
  obtain ⟨_, hl, hc⟩ := World.cells?_some h
  have hil : i < n := by have := (List.getElem?_eq_some_iff.1 hi).1; omega
  rw [hc i hil]
  exact hi
end Go.Proofs.Ytbpdejbkfpkphaa.My
end

section
-- from CameS
namespace Go.Proofs.Ytbpdejbkfpkphaa.My
open Go Go.RowKit Go.Deep Go.ChangeShapes Go.WideShapes Go.ChangeAt Go.Proofs.YtbpdejbkfpkphaaW.PrintWords
/-- Nothing in it is too large. -/
def Reach {H : Type} (t : TypeId) (d : DataW H) : Prop := ∀ n ∈ d.weights Try.prog t, n ≤ reachBytes
def CameS {α : Type} (d : Kd α) (t : TypeId) (ok : α → Prop) : Prop :=
  ∀ {H : Type} (enc : TypeId × Value → H) (w : World) (fuel : Nat) (cs : List Value) (x : DataW H × List MemPlace), DataW.trod enc Try.prog w 0 (fun _ => true) true fuel t cs = some x → Reach t x.1 → ∃ v : α, d.K w v cs ∧ ok v
theorem cameS_of {α : Type} {d : Kd α} {t : TypeId} {ok : α → Prop} {wt : α → Nat} (h : Came d t ok wt) : CameS d t ok := by
  intro H enc w fuel cs x hx _
  obtain ⟨v, h1, h2, _⟩ := h enc w fuel cs x hx
  exact ⟨v, h1, h2⟩
theorem cameS_mono {α : Type} {d : Kd α} {t : TypeId} {ok ok' : α → Prop} (h : CameS d t ok) (hok : ∀ x, ok x → ok' x) : CameS d t ok' := by
  intro H enc w fuel cs x hx hr
  obtain ⟨v, h1, h2⟩ := h enc w fuel cs x hx hr
  exact ⟨v, h1, hok v h2⟩
theorem weights_all {H : Type} {e : TypeId} : ∀ {l : List (DataW H)} {d : DataW H}, d ∈ l → ∀ n ∈ d.weights Try.prog e, n ∈ DataW.weightsAll Try.prog e l
  | x :: l, d, hd, n, hn => by
    simp only [DataW.weightsAll, List.mem_append]
    rcases List.mem_cons.1 hd with rfl | hd
    · exact .inl hn
    · exact .inr (weights_all hd n hn)
  | [], d, hd, n, hn => by cases hd
theorem cameS_slice {α : Type} [Inhabited α] {d : Kd α} {t e : TypeId} {ok : α → Prop} {B : Nat} (ht : Try.prog.underlying t = some (.slice e)) (hc : Try.prog.cellsOf e = d.sz) (hB : Try.prog.bytesOf e = B) (he : CameS d e ok) :
    CameS (Kd.slice e d) t (fun l => l.length * B ≤ reachBytes ∧ ∀ x ∈ l, ok x) := by
  intro H enc w fuel cs x h hr
  rcases open_slice ht h with ⟨rfl, rfl⟩ | ⟨ad, len, cap, m, n, D, Pl, rfl, _, hl, hmax, hm, rfl, hel⟩
  · exact ⟨[], ⟨none, 0, rfl, Nat.le_refl _, ⟨rfl, by simp, fun h => absurd h (Nat.lt_irrefl 0)⟩⟩, by simp⟩
  · have hlm : len ≤ m := by rw [hm]; simp; exact hl
    have hw : ∀ n, n ∈ (((List.range len).map D).length + ((List.range (m - len)).map fun j => D (len + j)).length) * Try.prog.bytesOf e :: (DataW.weightsAll Try.prog e ((List.range len).map D) ++ DataW.weightsAll Try.prog e ((List.range (m - len)).map fun j => D (len + j))) → n ≤ reachBytes := by
      intro n hn
      refine hr n ?_
      simp only [DataW.weights, ht]
      exact hn
    have one : ∀ i, i < len → ∃ v : α, (∃ cs', w.cells? 0 (ad.add (i * Try.prog.cellsOf e)) (Try.prog.cellsOf e) = some cs' ∧ d.K w v cs') ∧ ok v := by
      intro i hi
      obtain ⟨cs', h1, h2⟩ := hel i (by omega)
      obtain ⟨v, h3, h4⟩ := he enc w n cs' _ h2 (fun k hk => hw k (List.mem_cons_of_mem _ (List.mem_append_left _ (weights_all (List.mem_map.2 ⟨i, List.mem_range.2 hi, rfl⟩) k hk))))
      exact ⟨v, ⟨cs', h1, h3⟩, h4⟩
    obtain ⟨L, hL⟩ := pick_all one
    have hlen : ((List.range len).map L).length = len := by simp
    refine ⟨(List.range len).map L, ⟨some ad, cap, by rw [hlen], by rw [hlen]; exact hl, ?_⟩, ?_, ?_⟩
    · rw [hlen]
      refine ⟨hlen, by unfold maxLen at hmax; omega, fun _ => ⟨ad, rfl, fun j p hj => ?_⟩⟩
      have hjl : j < len := by have := (List.getElem?_eq_some_iff.1 hj).1; simpa using this
      have hp : p = L j := by
        rw [List.getElem?_map, List.getElem?_range hjl] at hj
        simp only [Option.map_some, Option.some.injEq] at hj
        exact hj.symm
      subst hp
      obtain ⟨⟨cs', h1, h2⟩, _⟩ := hL j hjl
      rw [hc] at h1
      refine ⟨cs', d.K_len h2, h2, fun i u hi => ?_⟩
      have := cells_get h1 i u hi
      rwa [Go.Deep.add_add] at this
    · have h1 := hw _ List.mem_cons_self
      rw [List.length_map, List.length_map, List.length_range, List.length_range, hB] at h1
      rw [hlen]
      exact Nat.le_trans (Nat.mul_le_mul_right B (by omega)) h1
    · intro y hy
      obtain ⟨i, hi, rfl⟩ := List.mem_map.1 hy
      exact (hL i (List.mem_range.1 hi)).2
/-- What a slice argument is. -/
theorem came_CS {α : Type} {d : Kd α} {t e : TypeId} {ok : List α → Prop} (h : CameS (Kd.slice e d) t ok) {H : Type} (enc : TypeId × Value → H) {w : World} {fuel : Nat} {v : Value} {x : DataW H × List MemPlace} (ht : DataW.trod enc Try.prog w 0 (fun _ => true) true fuel t v.cells.toList = some x) (hr : Reach t x.1) :
    ∃ (A : Option Addr) (c : Nat) (l : List α), v.cells.toList = [.slice A l.length c] ∧ l.length ≤ c ∧ d.C w A l.length l ∧ ok l := by
  obtain ⟨l, ⟨A, c, h1, h2, h3⟩, h4⟩ := h enc w fuel _ x ht hr
  exact ⟨A, c, l, h1, h2, h3, h4⟩
theorem reach_arg {H : Type} {ts : List TypeId} {ds : List (DataW H)} (h : (DataW.weightsEach Try.prog ts ds).all (· ≤ reachBytes) = true) {j : Nat} {t : TypeId} {d : DataW H} (ht : ts[j]? = some t) (hd : ds[j]? = some d) : Reach t d := fun n hn => by
  have := List.all_eq_true.1 h n (DataW.weights_mem_each ht hd n hn)
  simpa using this
theorem reach_num : reachBytes = 140737488351232 := rfl
end Go.Proofs.Ytbpdejbkfpkphaa.My
end

section
-- from CameP
namespace Go.Proofs.Ytbpdejbkfpkphaa.My
open Go Go.RowKit Go.Deep Go.ChangeShapes Go.WideShapes Go.ChangeAt Go.Proofs.YtbpdejbkfpkphaaW.PrintWords
theorem cameS_pair {α β : Type} {da : Kd α} {db : Kd β} {t : TypeId} {f0 f1 : Field} {oka : α → Prop} {okb : β → Prop} (ht : Try.prog.underlying t = some (.struct #[f0, f1])) (ct : Try.prog.cellsOf t = da.sz + db.sz)
    (h0 : f0.offset = 0) (h1 : f1.offset = da.sz) (c0 : Try.prog.cellsOf f0.type = da.sz) (c1 : Try.prog.cellsOf f1.type = db.sz) (A : CameS da f0.type oka) (B : CameS db f1.type okb) :
    CameS (Kd.pair da db) t (fun x => oka x.1 ∧ okb x.2) := by
  intro H enc w fuel cs x h hr
  obtain ⟨y0, y1, n, rfl, hl, e0, e1⟩ := trod_struct2 ht h
  rw [h0, c0, List.drop_zero] at e0
  rw [h1, c1] at e1
  have hw : ∀ k, k ∈ DataW.weights Try.prog f0.type y0.1 ++ (DataW.weights Try.prog f1.type y1.1 ++ []) → k ≤ reachBytes := fun k hk => hr k (by
    simp only [DataW.weights, ht]
    simpa [DataW.weightsEach] using hk)
  obtain ⟨v0, k0, o0⟩ := A enc w n _ _ e0 (fun k hk => hw k (List.mem_append_left _ hk))
  obtain ⟨v1, k1, o1⟩ := B enc w n _ _ e1 (fun k hk => hw k (List.mem_append_right _ (List.mem_append_left _ hk)))
  refine ⟨(v0, v1), ⟨_, _, ?_, k0, k1⟩, ⟨o0, o1⟩⟩
  rw [List.take_of_length_le (l := cs.drop da.sz) (by rw [List.length_drop]; omega), List.take_append_drop]
theorem cameS_iso {α β : Type} {d : Kd α} {t : TypeId} {ok : α → Prop} (f : β → α) (g : α → β) (hfg : ∀ x, f (g x) = x) (h : CameS d t ok) : CameS (Kd.iso d f) t (fun y => ok (f y)) := by
  intro H enc w fuel cs x hx hr
  obtain ⟨v, h1, h2⟩ := h enc w fuel cs x hx hr
  exact ⟨g v, by show d.K w (f (g v)) cs; rw [hfg]; exact h1, by show ok (f (g v)); rw [hfg]; exact h2⟩
theorem cameS_int {k : IntKind} {t : TypeId} (ht : Try.prog.underlying t = some (.int k)) : CameS (Kd.int k) t (fun n => (Lit.int k n).wf = true) := cameS_of (came_int ht)
theorem cameS_ints : CameS (Kd.slice 3 (Kd.int .i64)) 25 (fun l => (l.length : Int) ≤ 17592186044416) :=
  cameS_mono (cameS_slice (B := 8) Try.underlying25 (by kernel_rfl) (by kernel_rfl) (cameS_int Try.underlying3)) (fun _ h => by have := h.1; rw [reach_num] at this; omega)
instance : Inhabited K.S77 := ⟨K.z77⟩
instance : Inhabited K.S60 := ⟨K.z60⟩
theorem cameS_fact : CameS K.k77 77 (fun x => (x.f0.length : Int) ≤ 17592186044416) :=
  cameS_mono (cameS_iso (fun x : K.S77 => (x.f0, x.f1)) (fun p => ⟨p.1, p.2⟩) (fun _ => rfl) (cameS_pair Try.underlying77 (by kernel_rfl) rfl rfl (by kernel_rfl) (by kernel_rfl) cameS_ints (cameS_int Try.underlying2))) (fun _ h => h.1)
theorem cameS_facts : CameS (Kd.slice 77 K.k77) 45 (fun l => ∀ x ∈ l, (x.f0.length : Int) ≤ 17592186044416) :=
  cameS_mono (cameS_slice (B := 32) Try.underlying45 (by kernel_rfl) (by kernel_rfl) cameS_fact) (fun _ h => h.2)
end Go.Proofs.Ytbpdejbkfpkphaa.My
end
